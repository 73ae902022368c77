/- The reference: the simplest fraction of negative numbers, and of any. -/
import Derived.StillTail
import Derived.Deep.RegionHeldLaw
import Derived.Deep.LoopGhost
import Derived.Deep.QuietTactic
import Derived.BigQuiet
import Derived.Test.YtfnmbhjifdfibaaSpRSimpA
namespace Go.Proofs.Ytfnmbhjifdfibaa
open Go.RowKit
set_option maxHeartbeats 4000000 in
set_option maxRecDepth 100000 in
theorem qsimp_neg {w : World} {g1 h1 g2 h2 : Int} {A1 B1 A2 B2 : Option Addr} {c1 d1 L1 M1 c2 d2 L2 M2 K : Nat} {q1 q2 q : Rat} (z1 : QR w g1 A1 c1 L1 h1 B1 d1 M1 K q1) (z2 : QR w g2 A2 c2 L2 h2 B2 d2 M2 K q2) (hK : K ≤ 1000) (hq : IsSimp q1 q2 q) (hh : q1 < 0 ∧ ¬ 0 < q2) :
    Calls Try.prog 52 #[Value.agg #[Value.int IntKind.i64 g1, Value.slice A1 L1 c1, Value.int IntKind.i64 h1, Value.slice B1 M1 d1], Value.agg #[Value.int IntKind.i64 g2, Value.slice A2 L2 c2, Value.int IntKind.i64 h2, Value.slice B2 M2 d2], .int .i64 200] w (RetQB w (K + 20) q) := by
  obtain ⟨n1, n2⟩ := qr_bl z1
  obtain ⟨X, Y, p1, p2, p3, p4, p5, p6⟩ := z2.ex
  have hqd := q.den_pos
  have HZ1 := Lib.hid z1
  have HZ2 := Lib.hid (And.intro z2 (And.intro p1 p2))
  have HQ := Lib.hid hq
  have HB := Lib.hid p4
  have HH := Lib.hid hh
  clear z1 z2 hq p1 p2 p4 hh
  go_enter Try.func52, Try.ntmps52
  go_wp2_with fail
  obtain ⟨w0, hw0⟩ : ∃ z : World, z = (((w.alloc (.cells #[.int .i64 g1, .slice A1 L1 c1, .int .i64 h1, .slice B1 M1 d1] 38)).alloc (.cells #[.int .i64 g2, .slice A2 L2 c2, .int .i64 h2, .slice B2 M2 d2] 38)).alloc (.cells #[.int .i64 0, .slice none 0 0, .int .i64 0, .slice none 0 0] 38)) := ⟨_, rfl⟩
  rw [← hw0]
  have bxa : BK w0 (w.heap.size) 38 #[.int .i64 g1, .slice A1 L1 c1, .int .i64 h1, .slice B1 M1 d1] := by rw [hw0]; have h5 := (BK.ext (BK.ext (BK.new w #[.int .i64 g1, .slice A1 L1 c1, .int .i64 h1, .slice B1 M1 d1] 38) (Ext.alloc _ (.cells #[.int .i64 g2, .slice A2 L2 c2, .int .i64 h2, .slice B2 M2 d2] 38))) (Ext.alloc _ (.cells #[.int .i64 0, .slice none 0 0, .int .i64 0, .slice none 0 0] 38))); simpa only [World.size_alloc] using h5
  have bxb : BK w0 (w.heap.size + 1) 38 #[.int .i64 g2, .slice A2 L2 c2, .int .i64 h2, .slice B2 M2 d2] := by rw [hw0]; have h5 := (BK.ext (BK.new (w.alloc (.cells #[.int .i64 g1, .slice A1 L1 c1, .int .i64 h1, .slice B1 M1 d1] 38)) #[.int .i64 g2, .slice A2 L2 c2, .int .i64 h2, .slice B2 M2 d2] 38) (Ext.alloc _ (.cells #[.int .i64 0, .slice none 0 0, .int .i64 0, .slice none 0 0] 38))); simpa only [World.size_alloc] using h5
  have bxr : BK w0 (w.heap.size + 1 + 1) 38 #[.int .i64 0, .slice none 0 0, .int .i64 0, .slice none 0 0] := by rw [hw0]; have h5 := (BK.new ((w.alloc (.cells #[.int .i64 g1, .slice A1 L1 c1, .int .i64 h1, .slice B1 M1 d1] 38)).alloc (.cells #[.int .i64 g2, .slice A2 L2 c2, .int .i64 h2, .slice B2 M2 d2] 38)) #[.int .i64 0, .slice none 0 0, .int .i64 0, .slice none 0 0] 38); simpa only [World.size_alloc] using h5
  have hszw0 : w0.heap.size = w.heap.size + 1 + 1 + 1 := by rw [hw0]; simp only [World.size_alloc]
  have xw0 : Ext w w0 := by rw [hw0]; exact (((Ext.alloc _ _).trans (Ext.alloc _ _)).trans (Ext.alloc _ _))
  clear hw0
  have HBX := Lib.hid (And.intro bxa (And.intro bxb bxr))
  clear bxa bxb bxr
  go_loopw [8] (fun dv wr => ∃ d : Nat, dv = .int .i64 d ∧ 1 ≤ d ∧ d ≤ q.den ∧ d ≤ 201 ∧ Ext w0 wr) (fun dv _ => 201 - (intOf dv).toNat)
  case atStart => exact ⟨1, rfl, by omega, by omega, by omega, Ext.refl _⟩
  case round =>
    obtain ⟨d, rfl, hd1, hdq, hd2, hx⟩ := hrel
    have hszr := hx.size
    have bxa := HBX.out.1.ext hx
    have bxb := HBX.out.2.1.ext hx
    have bxr := HBX.out.2.2.ext hx
    have xwr : Ext w wr := xw0.trans hx
    by_cases hle : d ≤ 200
    · have b8 := bl_200 hle
      have b9 := bl_nup n1 b8
      have HNU := Lib.hid (nup_eq q1 d)
      obtain ⟨n, hn⟩ : ∃ n : Int, nup q1 d = n := ⟨_, rfl⟩
      rw [hn] at b9 HNU
      have HN := Lib.hid hn
      clear hn
      have u1 : bl (1 : Int).natAbs ≤ 1 := bl_one1
      have u2 : bl ((d : Int)).natAbs ≤ 8 := by rw [bl_nat]; exact b8
      have ka_0 := bxa.c 0 (.int .i64 g1) rfl
      have ka_1 := bxa.c 1 (.slice A1 L1 c1) rfl
      have ka_2 := bxa.c 2 (.int .i64 h1) rfl
      have ka_3 := bxa.c 3 (.slice B1 M1 d1) rfl
      have kb_0 := bxb.c 0 (.int .i64 g2) rfl
      have kb_1 := bxb.c 1 (.slice A2 L2 c2) rfl
      have kb_2 := bxb.c 2 (.int .i64 h2) rfl
      have kb_3 := bxb.c 3 (.slice B2 M2 d2) rfl
      have kr_0 := bxr.c 0 (.int .i64 0) rfl
      have kr_1 := bxr.c 1 (.slice none 0 0) rfl
      have kr_2 := bxr.c 2 (.int .i64 0) rfl
      have kr_3 := bxr.c 3 (.slice none 0 0) rfl
      go_wp2_with fail
      clear ka_0 ka_1 ka_2 ka_3 kb_0 kb_1 kb_2 kb_3 kr_0 kr_1 kr_2 kr_3
      refine (small_rz (n := (d : Int)) (by omega)).mono ?_
      rintro e w1 ⟨gdn, Adn, cdn, Ldn, rfl, dn, x1⟩
      have szw1 : wr.heap.size ≤ w1.heap.size := x1.size
      replace bxa := bxa.ext x1
      replace bxb := bxb.ext x1
      replace bxr := bxr.ext x1
      have HDN := Lib.hid dn
      clear dn
      have ka_0 := bxa.c 0 (.int .i64 g1) rfl
      have ka_1 := bxa.c 1 (.slice A1 L1 c1) rfl
      have ka_2 := bxa.c 2 (.int .i64 h1) rfl
      have ka_3 := bxa.c 3 (.slice B1 M1 d1) rfl
      have kb_0 := bxb.c 0 (.int .i64 g2) rfl
      have kb_1 := bxb.c 1 (.slice A2 L2 c2) rfl
      have kb_2 := bxb.c 2 (.int .i64 h2) rfl
      have kb_3 := bxb.c 3 (.slice B2 M2 d2) rfl
      have kr_0 := bxr.c 0 (.int .i64 0) rfl
      have kr_1 := bxr.c 1 (.slice none 0 0) rfl
      have kr_2 := bxr.c 2 (.int .i64 0) rfl
      have kr_3 := bxr.c 3 (.slice none 0 0) rfl
      have t1a_0 := fun (o0 : Obj) => ((Ext.alloc w1 o0).cell (bxa.c 0 (.int .i64 g1) rfl))
      have t1a_1 := fun (o0 : Obj) => ((Ext.alloc w1 o0).cell (bxa.c 1 (.slice A1 L1 c1) rfl))
      have t1a_2 := fun (o0 : Obj) => ((Ext.alloc w1 o0).cell (bxa.c 2 (.int .i64 h1) rfl))
      have t1a_3 := fun (o0 : Obj) => ((Ext.alloc w1 o0).cell (bxa.c 3 (.slice B1 M1 d1) rfl))
      have t1b_0 := fun (o0 : Obj) => ((Ext.alloc w1 o0).cell (bxb.c 0 (.int .i64 g2) rfl))
      have t1b_1 := fun (o0 : Obj) => ((Ext.alloc w1 o0).cell (bxb.c 1 (.slice A2 L2 c2) rfl))
      have t1b_2 := fun (o0 : Obj) => ((Ext.alloc w1 o0).cell (bxb.c 2 (.int .i64 h2) rfl))
      have t1b_3 := fun (o0 : Obj) => ((Ext.alloc w1 o0).cell (bxb.c 3 (.slice B2 M2 d2) rfl))
      have t1r_0 := fun (o0 : Obj) => ((Ext.alloc w1 o0).cell (bxr.c 0 (.int .i64 0) rfl))
      have t1r_1 := fun (o0 : Obj) => ((Ext.alloc w1 o0).cell (bxr.c 1 (.slice none 0 0) rfl))
      have t1r_2 := fun (o0 : Obj) => ((Ext.alloc w1 o0).cell (bxr.c 2 (.int .i64 0) rfl))
      have t1r_3 := fun (o0 : Obj) => ((Ext.alloc w1 o0).cell (bxr.c 3 (.slice none 0 0) rfl))
      go_wp2_with fail
      clear ka_0 ka_1 ka_2 ka_3 kb_0 kb_1 kb_2 kb_3 kr_0 kr_1 kr_2 kr_3 t1a_0 t1a_1 t1a_2 t1a_3 t1b_0 t1b_1 t1b_2 t1b_3 t1r_0 t1r_1 t1r_2 t1r_3
      obtain ⟨w2, hw⟩ : ∃ z : World, z = (w1.alloc (.cells #[.int .i64 gdn, .slice Adn Ldn cdn] 36)) := ⟨_, rfl⟩
      rw [← hw]
      have x2 : Ext w1 w2 := by rw [hw]; exact (Ext.alloc _ _)
      replace bxa := bxa.ext x2
      replace bxb := bxb.ext x2
      replace bxr := bxr.ext x2
      have bxden : BK w2 (w1.heap.size) 36 #[.int .i64 gdn, .slice Adn Ldn cdn] := by rw [hw]; have h5 := (BK.new w1 #[.int .i64 gdn, .slice Adn Ldn cdn] 36); simpa only [World.size_alloc] using h5
      have szw2 : w2.heap.size = w1.heap.size + 1 := by rw [hw]; simp only [World.size_alloc]
      clear hw
      have ka_0 := bxa.c 0 (.int .i64 g1) rfl
      have ka_1 := bxa.c 1 (.slice A1 L1 c1) rfl
      have ka_2 := bxa.c 2 (.int .i64 h1) rfl
      have ka_3 := bxa.c 3 (.slice B1 M1 d1) rfl
      have kden_0 := bxden.c 0 (.int .i64 gdn) rfl
      have kden_1 := bxden.c 1 (.slice Adn Ldn cdn) rfl
      have HSZ := Lib.hid (And.intro True.intro (And.intro hszw0 (And.intro hszr (And.intro szw1 szw2))))
      clear hszw0 hszr szw1 szw2
      go_wp2_with fail
      go_cut [10] (fun s10 wx => PutZK w2 wx n s10)
      case first =>
        have HK : Hid (∀ w', Ext w2 w' → Ext w2 w' ∧ w'.cell? ⟨w.heap.size, 0, none⟩ = some (.int .i64 g1) ∧ w'.cell? ⟨w.heap.size, 1, none⟩ = some (.slice A1 L1 c1) ∧ w'.cell? ⟨w.heap.size, 2, none⟩ = some (.int .i64 h1) ∧ w'.cell? ⟨w.heap.size, 3, none⟩ = some (.slice B1 M1 d1) ∧ w'.cell? ⟨w1.heap.size, 0, none⟩ = some (.int .i64 gdn) ∧ w'.cell? ⟨w1.heap.size, 1, none⟩ = some (.slice Adn Ldn cdn)) := fun w' hk => ⟨hk, hk.cell ka_0, hk.cell ka_1, hk.cell ka_2, hk.cell ka_3, hk.cell kden_0, hk.cell kden_1⟩
        first
        | go_region_held3 (fun w' => Ext w2 w' ∧ w'.cell? ⟨w.heap.size, 0, none⟩ = some (.int .i64 g1) ∧ w'.cell? ⟨w.heap.size, 1, none⟩ = some (.slice A1 L1 c1) ∧ w'.cell? ⟨w.heap.size, 2, none⟩ = some (.int .i64 h1) ∧ w'.cell? ⟨w.heap.size, 3, none⟩ = some (.slice B1 M1 d1) ∧ w'.cell? ⟨w1.heap.size, 0, none⟩ = some (.int .i64 gdn) ∧ w'.cell? ⟨w1.heap.size, 1, none⟩ = some (.slice Adn Ldn cdn))
            ((with_reducible refine HK.out _ ?_; (repeat' (first | with_reducible exact Ext.refl _ | with_reducible assumption | with_reducible apply Ext.alloc_r | with_reducible apply Ext.drew_r | with_reducible apply Ext.drewN_r | with_reducible apply Ext.set_r | with_reducible exact Nat.le_refl _ | omega | with_reducible refine Ext.trans ?_ ‹Ext _ _›))))
            (first
              | (go_at_call 83; have hgd := ob; clear hgd; refine (toRZ HNU.out (add_rz (f.ext (by with_reducible repeat' first | exact Ext.refl _ | assumption | apply Ext.alloc_r | apply Ext.drew_r | apply Ext.drewN_r | refine Ext.trans ?_ ‹Ext _ _›)) (ob.ext (by with_reducible repeat' first | exact Ext.refl _ | assumption | apply Ext.alloc_r | apply Ext.drew_r | apply Ext.drewN_r | refine Ext.trans ?_ ‹Ext _ _›)) (floor_bd n1 hK b8) (by omega))).mono ?_; rintro e w7 ⟨gt, At, ct, Lt, rfl, t, x7⟩; (have zs7 := x7.size); (try simp only [World.size_alloc] at zs7); (try ((with_reducible have h7_0 := box_ext (vs := #[.int .i64 0, .slice none 0 0]) x7); have h7_0c0 := (h7_0.1 0 (.int .i64 0) rfl).1; have h7_0f0 := (h7_0.1 0 (.int .i64 0) rfl).2; have h7_0c1 := (h7_0.1 1 (.slice none 0 0) rfl).1; have h7_0f1 := (h7_0.1 1 (.slice none 0 0) rfl).2; have h7_0b := h7_0.2.1; have h7_0z := h7_0.2.2; (try simp only [World.size_alloc] at h7_0b h7_0z h7_0c0 h7_0f0 h7_0c1 h7_0f1); have h7_0m := Nat.ne_of_lt h7_0z; have h7_0n := Nat.ne_of_gt h7_0z; clear h7_0)); (try (have hh : Ext w3 w7 := ?g700; (case g700 => ((with_reducible repeat' first | exact Ext.refl _ | assumption | apply Ext.alloc_r | apply Ext.drew_r | apply Ext.drewN_r | refine Ext.trans ?_ ‹Ext _ _›); done)); replace h3_0f0 := hh.frozen h3_0c0 h3_0f0; replace h3_0c0 := hh.cell h3_0c0; replace h3_0f1 := hh.frozen h3_0c1 h3_0f1; replace h3_0c1 := hh.cell h3_0c1; replace h3_0b := h3_0b.ext hh; have h3_0z2 := Nat.lt_of_lt_of_le h3_0z hh.size; have h3_0m2 := Nat.ne_of_lt h3_0z2; have h3_0n2 := Nat.ne_of_gt h3_0z2; clear hh)); (try (have hh : Ext w4 w7 := ?g710; (case g710 => ((with_reducible repeat' first | exact Ext.refl _ | assumption | apply Ext.alloc_r | apply Ext.drew_r | apply Ext.drewN_r | refine Ext.trans ?_ ‹Ext _ _›); done)); replace h4_0f0 := hh.frozen h4_0c0 h4_0f0; replace h4_0c0 := hh.cell h4_0c0; replace h4_0f1 := hh.frozen h4_0c1 h4_0f1; replace h4_0c1 := hh.cell h4_0c1; replace h4_0b := h4_0b.ext hh; have h4_0z2 := Nat.lt_of_lt_of_le h4_0z hh.size; have h4_0m2 := Nat.ne_of_lt h4_0z2; have h4_0n2 := Nat.ne_of_gt h4_0z2; clear hh)); (try (have hh : Ext w5 w7 := ?g720; (case g720 => ((with_reducible repeat' first | exact Ext.refl _ | assumption | apply Ext.alloc_r | apply Ext.drew_r | apply Ext.drewN_r | refine Ext.trans ?_ ‹Ext _ _›); done)); replace h5_0f0 := hh.frozen h5_0c0 h5_0f0; replace h5_0c0 := hh.cell h5_0c0; replace h5_0f1 := hh.frozen h5_0c1 h5_0f1; replace h5_0c1 := hh.cell h5_0c1; replace h5_0b := h5_0b.ext hh; have h5_0z2 := Nat.lt_of_lt_of_le h5_0z hh.size; have h5_0m2 := Nat.ne_of_lt h5_0z2; have h5_0n2 := Nat.ne_of_gt h5_0z2; clear hh)); (try (have hh : Ext w6 w7 := ?g730; (case g730 => ((with_reducible repeat' first | exact Ext.refl _ | assumption | apply Ext.alloc_r | apply Ext.drew_r | apply Ext.drewN_r | refine Ext.trans ?_ ‹Ext _ _›); done)); replace h6_0f0 := hh.frozen h6_0c0 h6_0f0; replace h6_0c0 := hh.cell h6_0c0; replace h6_0f1 := hh.frozen h6_0c1 h6_0f1; replace h6_0c1 := hh.cell h6_0c1; replace h6_0b := h6_0b.ext hh; have h6_0z2 := Nat.lt_of_lt_of_le h6_0z hh.size; have h6_0m2 := Nat.ne_of_lt h6_0z2; have h6_0n2 := Nat.ne_of_gt h6_0z2; clear hh)))
              | (go_at_call 20; have hgd := f; clear hgd; refine (small_rz (n := 1) (by omega)).mono ?_; rintro e w6 ⟨gob, Aob, cob, Lob, rfl, ob, x6⟩; (have zs6 := x6.size); (try simp only [World.size_alloc] at zs6); (try ((with_reducible have h6_0 := box_ext (vs := #[.int .i64 0, .slice none 0 0]) x6); have h6_0c0 := (h6_0.1 0 (.int .i64 0) rfl).1; have h6_0f0 := (h6_0.1 0 (.int .i64 0) rfl).2; have h6_0c1 := (h6_0.1 1 (.slice none 0 0) rfl).1; have h6_0f1 := (h6_0.1 1 (.slice none 0 0) rfl).2; have h6_0b := h6_0.2.1; have h6_0z := h6_0.2.2; (try simp only [World.size_alloc] at h6_0b h6_0z h6_0c0 h6_0f0 h6_0c1 h6_0f1); have h6_0m := Nat.ne_of_lt h6_0z; have h6_0n := Nat.ne_of_gt h6_0z; clear h6_0)))
              | (go_at_call 28; have hgd := m; clear hgd; refine (qfloor_r (m.ext (by with_reducible repeat' first | exact Ext.refl _ | assumption | apply Ext.alloc_r | apply Ext.drew_r | apply Ext.drewN_r | refine Ext.trans ?_ ‹Ext _ _›)) (by omega)).mono ?_; rintro e w5 ⟨gf, Af, cf, Lf, rfl, f, x5⟩; (have zs5 := x5.size); (try simp only [World.size_alloc] at zs5); (try ((with_reducible have h5_0 := box_ext (vs := #[.int .i64 0, .slice none 0 0]) x5); have h5_0c0 := (h5_0.1 0 (.int .i64 0) rfl).1; have h5_0f0 := (h5_0.1 0 (.int .i64 0) rfl).2; have h5_0c1 := (h5_0.1 1 (.slice none 0 0) rfl).1; have h5_0f1 := (h5_0.1 1 (.slice none 0 0) rfl).2; have h5_0b := h5_0.2.1; have h5_0z := h5_0.2.2; (try simp only [World.size_alloc] at h5_0b h5_0z h5_0c0 h5_0f0 h5_0c1 h5_0f1); have h5_0m := Nat.ne_of_lt h5_0z; have h5_0n := Nat.ne_of_gt h5_0z; clear h5_0)))
              | (go_at_call 37; have hgd := oa; clear hgd; refine (qmul_r (HZ1.out.ext (by with_reducible repeat' first | exact Ext.refl _ | assumption | apply Ext.alloc_r | apply Ext.drew_r | apply Ext.drewN_r | refine Ext.trans ?_ ‹Ext _ _›)) (qr_int (K := 8) (HDN.out.ext (by with_reducible repeat' first | exact Ext.refl _ | assumption | apply Ext.alloc_r | apply Ext.drew_r | apply Ext.drewN_r | refine Ext.trans ?_ ‹Ext _ _›)) (oa.ext (by with_reducible repeat' first | exact Ext.refl _ | assumption | apply Ext.alloc_r | apply Ext.drew_r | apply Ext.drewN_r | refine Ext.trans ?_ ‹Ext _ _›)) (by omega) (by omega)) (by omega) (by omega)).mono ?_; rintro e w4 ⟨gm, Am, cm, Lm, hm, Bm, dm, Mm, rfl, m, x4⟩; (have zs4 := x4.size); (try simp only [World.size_alloc] at zs4); (try ((with_reducible have h4_0 := box_ext (vs := #[.int .i64 0, .slice none 0 0]) x4); have h4_0c0 := (h4_0.1 0 (.int .i64 0) rfl).1; have h4_0f0 := (h4_0.1 0 (.int .i64 0) rfl).2; have h4_0c1 := (h4_0.1 1 (.slice none 0 0) rfl).1; have h4_0f1 := (h4_0.1 1 (.slice none 0 0) rfl).2; have h4_0b := h4_0.2.1; have h4_0z := h4_0.2.2; (try simp only [World.size_alloc] at h4_0b h4_0z h4_0c0 h4_0f0 h4_0c1 h4_0f1); have h4_0m := Nat.ne_of_lt h4_0z; have h4_0n := Nat.ne_of_gt h4_0z; clear h4_0)))
              | (go_at_call 20; refine (small_rz (n := 1) (by omega)).mono ?_; rintro e w3 ⟨goa, Aoa, coa, Loa, rfl, oa, x3⟩; (have zs3 := x3.size); (try simp only [World.size_alloc, World.size_drew] at zs3); (try ((with_reducible have h3_0 := box_ext (vs := #[.int .i64 0, .slice none 0 0]) ((Ext.drew _).trans x3)); have h3_0c0 := (h3_0.1 0 (.int .i64 0) rfl).1; have h3_0f0 := (h3_0.1 0 (.int .i64 0) rfl).2; have h3_0c1 := (h3_0.1 1 (.slice none 0 0) rfl).1; have h3_0f1 := (h3_0.1 1 (.slice none 0 0) rfl).2; have h3_0b := h3_0.2.1; have h3_0z := h3_0.2.2; (try simp only [World.size_alloc] at h3_0b h3_0z h3_0c0 h3_0f0 h3_0c1 h3_0f1); have h3_0m := Nat.ne_of_lt h3_0z; have h3_0n := Nat.ne_of_gt h3_0z; clear h3_0))))
        | fail
        all_goals (clear HK; go_wp2_with fail; go_meet)
        all_goals
          refine PutZK.mk (g := gt) (A := At) (c := ct) (L := Lt) ?_ ?_ (t.kept ?_) ?_
          · (first | exact Nat.le_refl _ | omega | (simp only [World.size_alloc, World.size_drew]; omega) | (simp; omega))
          · (repeat' (first | with_reducible assumption | with_reducible apply BK.set2z | (with_reducible apply BK.far2z; (case hne => (first | assumption | omega | (simp; done) | (simp only [World.size_alloc, World.size_drew]; omega)))) | (with_reducible apply BK.far2z; (case hne => (first | assumption | omega | (simp; done) | (simp only [World.size_alloc, World.size_drew]; omega)))) | (with_reducible apply BK.new_z; (first | rfl | (simp; done))) | with_reducible apply BK.alloc_z | with_reducible apply BK.drew_z | with_reducible refine BK.ext ?_ ‹Ext _ _›))
          · (repeat' (first | with_reducible exact Kept.refl _ | with_reducible apply Kept.alloc_r | with_reducible apply Kept.drew_r | (with_reducible apply Kept.setZ; (case hb => ((repeat' (first | with_reducible assumption | with_reducible apply IsBox.set_ | (with_reducible apply IsBox.new; (first | (with_reducible rfl) | simp); done) | with_reducible apply IsBox.alloc_ | with_reducible apply IsBox.drew_ | with_reducible refine IsBox.ext ?_ ‹Ext _ _›)); done))) | with_reducible refine Kept.trans ?_ (Ext.kept ‹Ext _ _›)))
          · (repeat' (first | with_reducible exact Ext.refl _ | with_reducible assumption | with_reducible apply Ext.alloc_r | with_reducible apply Ext.drew_r | with_reducible apply Ext.drewN_r | with_reducible apply Ext.set_r | with_reducible exact Nat.le_refl _ | omega | with_reducible refine Ext.trans ?_ ‹Ext _ _›))
      case rest =>
        obtain ⟨hszw0, hszr, szw1, szw2⟩ := HSZ.out.2
        clear ka_0 ka_1 ka_2 ka_3 kden_0 kden_1
        obtain ⟨b10, gn, An, cn, Ln, rfl, hb10, bxn, nn, hxc⟩ := hcut
        obtain ⟨wn, rfl⟩ : ∃ z : World, z = wc := ⟨_, rfl⟩
        have szwn : w2.heap.size ≤ wn.heap.size := hxc.size
        replace bxa := bxa.ext hxc
        replace bxb := bxb.ext hxc
        replace bxr := bxr.ext hxc
        replace bxden := bxden.ext hxc
        have hl10 := bxn.lt
        have HNN := Lib.hid nn
        have HGN : Hid (gn = n.sign) := nn.sign
        clear nn
        have ka_0 := bxa.c 0 (.int .i64 g1) rfl
        have ka_1 := bxa.c 1 (.slice A1 L1 c1) rfl
        have ka_2 := bxa.c 2 (.int .i64 h1) rfl
        have ka_3 := bxa.c 3 (.slice B1 M1 d1) rfl
        have kb_0 := bxb.c 0 (.int .i64 g2) rfl
        have kb_1 := bxb.c 1 (.slice A2 L2 c2) rfl
        have kb_2 := bxb.c 2 (.int .i64 h2) rfl
        have kb_3 := bxb.c 3 (.slice B2 M2 d2) rfl
        have kr_0 := bxr.c 0 (.int .i64 0) rfl
        have kr_1 := bxr.c 1 (.slice none 0 0) rfl
        have kr_2 := bxr.c 2 (.int .i64 0) rfl
        have kr_3 := bxr.c 3 (.slice none 0 0) rfl
        have kden_0 := bxden.c 0 (.int .i64 gdn) rfl
        have kden_1 := bxden.c 1 (.slice Adn Ldn cdn) rfl
        have kn_0 := bxn.c 0 (.int .i64 gn) rfl
        have kn_1 := bxn.c 1 (.slice An Ln cn) rfl
        have t1a_0 := fun (o0 : Obj) => ((Ext.alloc wn o0).cell (bxa.c 0 (.int .i64 g1) rfl))
        have t1a_1 := fun (o0 : Obj) => ((Ext.alloc wn o0).cell (bxa.c 1 (.slice A1 L1 c1) rfl))
        have t1a_2 := fun (o0 : Obj) => ((Ext.alloc wn o0).cell (bxa.c 2 (.int .i64 h1) rfl))
        have t1a_3 := fun (o0 : Obj) => ((Ext.alloc wn o0).cell (bxa.c 3 (.slice B1 M1 d1) rfl))
        have t1b_0 := fun (o0 : Obj) => ((Ext.alloc wn o0).cell (bxb.c 0 (.int .i64 g2) rfl))
        have t1b_1 := fun (o0 : Obj) => ((Ext.alloc wn o0).cell (bxb.c 1 (.slice A2 L2 c2) rfl))
        have t1b_2 := fun (o0 : Obj) => ((Ext.alloc wn o0).cell (bxb.c 2 (.int .i64 h2) rfl))
        have t1b_3 := fun (o0 : Obj) => ((Ext.alloc wn o0).cell (bxb.c 3 (.slice B2 M2 d2) rfl))
        have t1r_0 := fun (o0 : Obj) => ((Ext.alloc wn o0).cell (bxr.c 0 (.int .i64 0) rfl))
        have t1r_1 := fun (o0 : Obj) => ((Ext.alloc wn o0).cell (bxr.c 1 (.slice none 0 0) rfl))
        have t1r_2 := fun (o0 : Obj) => ((Ext.alloc wn o0).cell (bxr.c 2 (.int .i64 0) rfl))
        have t1r_3 := fun (o0 : Obj) => ((Ext.alloc wn o0).cell (bxr.c 3 (.slice none 0 0) rfl))
        have t1den_0 := fun (o0 : Obj) => ((Ext.alloc wn o0).cell (bxden.c 0 (.int .i64 gdn) rfl))
        have t1den_1 := fun (o0 : Obj) => ((Ext.alloc wn o0).cell (bxden.c 1 (.slice Adn Ldn cdn) rfl))
        have t1n_0 := fun (o0 : Obj) => ((Ext.alloc wn o0).cell (bxn.c 0 (.int .i64 gn) rfl))
        have t1n_1 := fun (o0 : Obj) => ((Ext.alloc wn o0).cell (bxn.c 1 (.slice An Ln cn) rfl))
        go_wp2_with fail
        clear ka_0 ka_1 ka_2 ka_3 kb_0 kb_1 kb_2 kb_3 kr_0 kr_1 kr_2 kr_3 kden_0 kden_1 kn_0 kn_1 t1a_0 t1a_1 t1a_2 t1a_3 t1b_0 t1b_1 t1b_2 t1b_3 t1r_0 t1r_1 t1r_2 t1r_3 t1den_0 t1den_1 t1n_0 t1n_1
        obtain ⟨w8, hw⟩ : ∃ z : World, z = (wn.alloc (.cells #[.int .i64 gn, .slice An Ln cn, .int .i64 gdn, .slice Adn Ldn cdn] 38)) := ⟨_, rfl⟩
        rw [← hw]
        have x8 : Ext wn w8 := by rw [hw]; exact (Ext.alloc _ _)
        replace bxa := bxa.ext x8
        replace bxb := bxb.ext x8
        replace bxr := bxr.ext x8
        replace bxden := bxden.ext x8
        replace bxn := bxn.ext x8
        have bxx : BK w8 (wn.heap.size) 38 #[.int .i64 gn, .slice An Ln cn, .int .i64 gdn, .slice Adn Ldn cdn] := by rw [hw]; have h5 := (BK.new wn #[.int .i64 gn, .slice An Ln cn, .int .i64 gdn, .slice Adn Ldn cdn] 38); simpa only [World.size_alloc] using h5
        have szw8 : w8.heap.size = wn.heap.size + 1 := by rw [hw]; simp only [World.size_alloc]
        clear hw
        obtain ⟨C, hC⟩ : ∃ C : Int, C = cmpQ (mkRat n d) q2 := ⟨_, rfl⟩
        have HX : Hid (∀ w', Ext w8 w' → QR w' gn An cn Ln gdn Adn cdn Ldn (K + 10) (mkRat n d)) := fun w' hx => qr_mk (HNN.out.ext ((show Ext _ w8 from (by with_reducible repeat' first | exact Ext.refl _ | assumption | apply Ext.alloc_r | apply Ext.drew_r | apply Ext.drewN_r | refine Ext.trans ?_ ‹Ext _ _›)).trans hx)) (HDN.out.ext ((show Ext _ w8 from (by with_reducible repeat' first | exact Ext.refl _ | assumption | apply Ext.alloc_r | apply Ext.drew_r | apply Ext.drewN_r | refine Ext.trans ?_ ‹Ext _ _›)).trans hx)) (by omega) b9 (by omega)
        by_cases hlt : d < q.den
        · have hC0 : 0 ≤ C := by rw [hC]; exact cmpQ_ge0 (by rw [← HN.out]; exact HQ.out.not_below (by omega) hlt)
          have HC := Lib.hid hC.symm
          clear hC
          refine (qcmp_e (HX.out _ (by with_reducible repeat' first | exact Ext.refl _ | assumption | apply Ext.alloc_r | apply Ext.drew_r | apply Ext.drewN_r | refine Ext.trans ?_ ‹Ext _ _›)) (HZ2.out.1.ext (by with_reducible repeat' first | exact Ext.refl _ | assumption | apply Ext.alloc_r | apply Ext.drew_r | apply Ext.drewN_r | refine Ext.trans ?_ ‹Ext _ _›)) (by omega) (by omega) HC.out).mono ?_
          rintro e w9 ⟨rfl, x9⟩
          have szw9 : w8.heap.size ≤ w9.heap.size := x9.size
          replace bxa := bxa.ext x9
          replace bxb := bxb.ext x9
          replace bxr := bxr.ext x9
          replace bxden := bxden.ext x9
          replace bxn := bxn.ext x9
          replace bxx := bxx.ext x9
          clear HX HC
          have ka_0 := bxa.c 0 (.int .i64 g1) rfl
          have ka_1 := bxa.c 1 (.slice A1 L1 c1) rfl
          have ka_2 := bxa.c 2 (.int .i64 h1) rfl
          have ka_3 := bxa.c 3 (.slice B1 M1 d1) rfl
          have kb_0 := bxb.c 0 (.int .i64 g2) rfl
          have kb_1 := bxb.c 1 (.slice A2 L2 c2) rfl
          have kb_2 := bxb.c 2 (.int .i64 h2) rfl
          have kb_3 := bxb.c 3 (.slice B2 M2 d2) rfl
          have kr_0 := bxr.c 0 (.int .i64 0) rfl
          have kr_1 := bxr.c 1 (.slice none 0 0) rfl
          have kr_2 := bxr.c 2 (.int .i64 0) rfl
          have kr_3 := bxr.c 3 (.slice none 0 0) rfl
          have kden_0 := bxden.c 0 (.int .i64 gdn) rfl
          have kden_1 := bxden.c 1 (.slice Adn Ldn cdn) rfl
          have kn_0 := bxn.c 0 (.int .i64 gn) rfl
          have kn_1 := bxn.c 1 (.slice An Ln cn) rfl
          have kx_0 := bxx.c 0 (.int .i64 gn) rfl
          have kx_1 := bxx.c 1 (.slice An Ln cn) rfl
          have kx_2 := bxx.c 2 (.int .i64 gdn) rfl
          have kx_3 := bxx.c 3 (.slice Adn Ldn cdn) rfl
          go_wp2_with fail
          clear ka_0 ka_1 ka_2 ka_3 kb_0 kb_1 kb_2 kb_3 kr_0 kr_1 kr_2 kr_3 kden_0 kden_1 kn_0 kn_1 kx_0 kx_1 kx_2 kx_3
          go_roundw
          case rel => exact ⟨d + 1, by go_num, by omega, by omega, by omega, (by with_reducible repeat' first | exact Ext.refl _ | assumption | apply Ext.alloc_r | apply Ext.drew_r | apply Ext.drewN_r | refine Ext.trans ?_ ‹Ext _ _›)⟩
          case measure => simp [intOf]; omega
        · obtain rfl : d = q.den := by omega
          have hC0 : ¬ 0 ≤ C := by rw [hC]; exact cmpQ_lt0 (by rw [← HN.out]; exact HQ.out.at_den)
          have HC := Lib.hid hC.symm
          clear hC
          refine (qcmp_e (HX.out _ (by with_reducible repeat' first | exact Ext.refl _ | assumption | apply Ext.alloc_r | apply Ext.drew_r | apply Ext.drewN_r | refine Ext.trans ?_ ‹Ext _ _›)) (HZ2.out.1.ext (by with_reducible repeat' first | exact Ext.refl _ | assumption | apply Ext.alloc_r | apply Ext.drew_r | apply Ext.drewN_r | refine Ext.trans ?_ ‹Ext _ _›)) (by omega) (by omega) HC.out).mono ?_
          rintro e w9 ⟨rfl, x9⟩
          have szw9 : w8.heap.size ≤ w9.heap.size := x9.size
          replace bxa := bxa.ext x9
          replace bxb := bxb.ext x9
          replace bxr := bxr.ext x9
          replace bxden := bxden.ext x9
          replace bxn := bxn.ext x9
          replace bxx := bxx.ext x9
          clear HC
          have ka_0 := bxa.c 0 (.int .i64 g1) rfl
          have ka_1 := bxa.c 1 (.slice A1 L1 c1) rfl
          have ka_2 := bxa.c 2 (.int .i64 h1) rfl
          have ka_3 := bxa.c 3 (.slice B1 M1 d1) rfl
          have kb_0 := bxb.c 0 (.int .i64 g2) rfl
          have kb_1 := bxb.c 1 (.slice A2 L2 c2) rfl
          have kb_2 := bxb.c 2 (.int .i64 h2) rfl
          have kb_3 := bxb.c 3 (.slice B2 M2 d2) rfl
          have kr_0 := bxr.c 0 (.int .i64 0) rfl
          have kr_1 := bxr.c 1 (.slice none 0 0) rfl
          have kr_2 := bxr.c 2 (.int .i64 0) rfl
          have kr_3 := bxr.c 3 (.slice none 0 0) rfl
          have kden_0 := bxden.c 0 (.int .i64 gdn) rfl
          have kden_1 := bxden.c 1 (.slice Adn Ldn cdn) rfl
          have kn_0 := bxn.c 0 (.int .i64 gn) rfl
          have kn_1 := bxn.c 1 (.slice An Ln cn) rfl
          have kx_0 := bxx.c 0 (.int .i64 gn) rfl
          have kx_1 := bxx.c 1 (.slice An Ln cn) rfl
          have kx_2 := bxx.c 2 (.int .i64 gdn) rfl
          have kx_3 := bxx.c 3 (.slice Adn Ldn cdn) rfl
          go_wp2_with fail
          clear ka_0 ka_1 ka_2 ka_3 kb_0 kb_1 kb_2 kb_3 kr_0 kr_1 kr_2 kr_3 kden_0 kden_1 kn_0 kn_1 kx_0 kx_1 kx_2 kx_3
          refine (small_rz (n := 1) (by omega)).mono ?_
          rintro e w10 ⟨gze, Aze, cze, Lze, rfl, ze, x10⟩
          have szw10 : w9.heap.size ≤ w10.heap.size := x10.size
          replace bxa := bxa.ext x10
          replace bxb := bxb.ext x10
          replace bxr := bxr.ext x10
          replace bxden := bxden.ext x10
          replace bxn := bxn.ext x10
          replace bxx := bxx.ext x10
          have HZE := Lib.hid ze
          clear ze
          have ka_0 := bxa.c 0 (.int .i64 g1) rfl
          have ka_1 := bxa.c 1 (.slice A1 L1 c1) rfl
          have ka_2 := bxa.c 2 (.int .i64 h1) rfl
          have ka_3 := bxa.c 3 (.slice B1 M1 d1) rfl
          have kb_0 := bxb.c 0 (.int .i64 g2) rfl
          have kb_1 := bxb.c 1 (.slice A2 L2 c2) rfl
          have kb_2 := bxb.c 2 (.int .i64 h2) rfl
          have kb_3 := bxb.c 3 (.slice B2 M2 d2) rfl
          have kr_0 := bxr.c 0 (.int .i64 0) rfl
          have kr_1 := bxr.c 1 (.slice none 0 0) rfl
          have kr_2 := bxr.c 2 (.int .i64 0) rfl
          have kr_3 := bxr.c 3 (.slice none 0 0) rfl
          have kden_0 := bxden.c 0 (.int .i64 gdn) rfl
          have kden_1 := bxden.c 1 (.slice Adn Ldn cdn) rfl
          have kn_0 := bxn.c 0 (.int .i64 gn) rfl
          have kn_1 := bxn.c 1 (.slice An Ln cn) rfl
          have kx_0 := bxx.c 0 (.int .i64 gn) rfl
          have kx_1 := bxx.c 1 (.slice An Ln cn) rfl
          have kx_2 := bxx.c 2 (.int .i64 gdn) rfl
          have kx_3 := bxx.c 3 (.slice Adn Ldn cdn) rfl
          have t1a_0 := fun (o0 : Obj) => ((Ext.alloc w10 o0).cell (bxa.c 0 (.int .i64 g1) rfl))
          have t1a_1 := fun (o0 : Obj) => ((Ext.alloc w10 o0).cell (bxa.c 1 (.slice A1 L1 c1) rfl))
          have t1a_2 := fun (o0 : Obj) => ((Ext.alloc w10 o0).cell (bxa.c 2 (.int .i64 h1) rfl))
          have t1a_3 := fun (o0 : Obj) => ((Ext.alloc w10 o0).cell (bxa.c 3 (.slice B1 M1 d1) rfl))
          have t1b_0 := fun (o0 : Obj) => ((Ext.alloc w10 o0).cell (bxb.c 0 (.int .i64 g2) rfl))
          have t1b_1 := fun (o0 : Obj) => ((Ext.alloc w10 o0).cell (bxb.c 1 (.slice A2 L2 c2) rfl))
          have t1b_2 := fun (o0 : Obj) => ((Ext.alloc w10 o0).cell (bxb.c 2 (.int .i64 h2) rfl))
          have t1b_3 := fun (o0 : Obj) => ((Ext.alloc w10 o0).cell (bxb.c 3 (.slice B2 M2 d2) rfl))
          have t1r_0 := fun (o0 : Obj) => ((Ext.alloc w10 o0).cell (bxr.c 0 (.int .i64 0) rfl))
          have t1r_1 := fun (o0 : Obj) => ((Ext.alloc w10 o0).cell (bxr.c 1 (.slice none 0 0) rfl))
          have t1r_2 := fun (o0 : Obj) => ((Ext.alloc w10 o0).cell (bxr.c 2 (.int .i64 0) rfl))
          have t1r_3 := fun (o0 : Obj) => ((Ext.alloc w10 o0).cell (bxr.c 3 (.slice none 0 0) rfl))
          have t1den_0 := fun (o0 : Obj) => ((Ext.alloc w10 o0).cell (bxden.c 0 (.int .i64 gdn) rfl))
          have t1den_1 := fun (o0 : Obj) => ((Ext.alloc w10 o0).cell (bxden.c 1 (.slice Adn Ldn cdn) rfl))
          have t1n_0 := fun (o0 : Obj) => ((Ext.alloc w10 o0).cell (bxn.c 0 (.int .i64 gn) rfl))
          have t1n_1 := fun (o0 : Obj) => ((Ext.alloc w10 o0).cell (bxn.c 1 (.slice An Ln cn) rfl))
          have t1x_0 := fun (o0 : Obj) => ((Ext.alloc w10 o0).cell (bxx.c 0 (.int .i64 gn) rfl))
          have t1x_1 := fun (o0 : Obj) => ((Ext.alloc w10 o0).cell (bxx.c 1 (.slice An Ln cn) rfl))
          have t1x_2 := fun (o0 : Obj) => ((Ext.alloc w10 o0).cell (bxx.c 2 (.int .i64 gdn) rfl))
          have t1x_3 := fun (o0 : Obj) => ((Ext.alloc w10 o0).cell (bxx.c 3 (.slice Adn Ldn cdn) rfl))
          go_wp2_with fail
          clear ka_0 ka_1 ka_2 ka_3 kb_0 kb_1 kb_2 kb_3 kr_0 kr_1 kr_2 kr_3 kden_0 kden_1 kn_0 kn_1 kx_0 kx_1 kx_2 kx_3 t1a_0 t1a_1 t1a_2 t1a_3 t1b_0 t1b_1 t1b_2 t1b_3 t1r_0 t1r_1 t1r_2 t1r_3 t1den_0 t1den_1 t1n_0 t1n_1 t1x_0 t1x_1 t1x_2 t1x_3
          obtain ⟨w11, hw⟩ : ∃ z : World, z = (w10.alloc (.cells #[.int .i64 0, .slice none 0 0, .int .i64 gze, .slice Aze Lze cze] 38)) := ⟨_, rfl⟩
          rw [← hw]
          have x11 : Ext w10 w11 := by rw [hw]; exact (Ext.alloc _ _)
          replace bxa := bxa.ext x11
          replace bxb := bxb.ext x11
          replace bxr := bxr.ext x11
          replace bxden := bxden.ext x11
          replace bxn := bxn.ext x11
          replace bxx := bxx.ext x11
          have bxze : BK w11 (w10.heap.size) 38 #[.int .i64 0, .slice none 0 0, .int .i64 gze, .slice Aze Lze cze] := by rw [hw]; have h5 := (BK.new w10 #[.int .i64 0, .slice none 0 0, .int .i64 gze, .slice Aze Lze cze] 38); simpa only [World.size_alloc] using h5
          have szw11 : w11.heap.size = w10.heap.size + 1 := by rw [hw]; simp only [World.size_alloc]
          clear hw
          have HZZ : Hid (∀ w', Ext w11 w' → QR w' 0 none 0 0 gze Aze cze Lze 1 0) := fun w' hx => qr_zero (HZE.out.ext ((show Ext _ w11 from (by with_reducible repeat' first | exact Ext.refl _ | assumption | apply Ext.alloc_r | apply Ext.drew_r | apply Ext.drewN_r | refine Ext.trans ?_ ‹Ext _ _›)).trans hx))
          obtain ⟨D, hD⟩ : ∃ D : Int, D = cmpQ q1 0 := ⟨_, rfl⟩
          obtain ⟨G, hG⟩ : ∃ G : Int, G = cmpQ 0 q2 := ⟨_, rfl⟩
          have gD : D < 0 ↔ q1 < 0 := by rw [hD]; exact cmpQ_lt0i
          have gG : G < 0 ↔ 0 < q2 := by rw [hG]; exact cmpQ_lt0i
          have HD := Lib.hid hD.symm
          have HG := Lib.hid hG.symm
          clear hD hG
          have hDD : D < 0 := gD.2 HH.out.1
          have hGG : ¬ G < 0 := fun h => HH.out.2 (gG.1 h)
          clear gD gG
          refine (qcmp_e (HZ1.out.ext (by with_reducible repeat' first | exact Ext.refl _ | assumption | apply Ext.alloc_r | apply Ext.drew_r | apply Ext.drewN_r | refine Ext.trans ?_ ‹Ext _ _›)) (HZZ.out _ (by with_reducible repeat' first | exact Ext.refl _ | assumption | apply Ext.alloc_r | apply Ext.drew_r | apply Ext.drewN_r | refine Ext.trans ?_ ‹Ext _ _›)) (by omega) (by omega) HD.out).mono ?_
          rintro e w12 ⟨rfl, x12⟩
          have szw12 : w11.heap.size ≤ w12.heap.size := x12.size
          replace bxa := bxa.ext x12
          replace bxb := bxb.ext x12
          replace bxr := bxr.ext x12
          replace bxden := bxden.ext x12
          replace bxn := bxn.ext x12
          replace bxx := bxx.ext x12
          replace bxze := bxze.ext x12
          have ka_0 := bxa.c 0 (.int .i64 g1) rfl
          have ka_1 := bxa.c 1 (.slice A1 L1 c1) rfl
          have ka_2 := bxa.c 2 (.int .i64 h1) rfl
          have ka_3 := bxa.c 3 (.slice B1 M1 d1) rfl
          have kb_0 := bxb.c 0 (.int .i64 g2) rfl
          have kb_1 := bxb.c 1 (.slice A2 L2 c2) rfl
          have kb_2 := bxb.c 2 (.int .i64 h2) rfl
          have kb_3 := bxb.c 3 (.slice B2 M2 d2) rfl
          have kr_0 := bxr.c 0 (.int .i64 0) rfl
          have kr_1 := bxr.c 1 (.slice none 0 0) rfl
          have kr_2 := bxr.c 2 (.int .i64 0) rfl
          have kr_3 := bxr.c 3 (.slice none 0 0) rfl
          have kden_0 := bxden.c 0 (.int .i64 gdn) rfl
          have kden_1 := bxden.c 1 (.slice Adn Ldn cdn) rfl
          have kn_0 := bxn.c 0 (.int .i64 gn) rfl
          have kn_1 := bxn.c 1 (.slice An Ln cn) rfl
          have kx_0 := bxx.c 0 (.int .i64 gn) rfl
          have kx_1 := bxx.c 1 (.slice An Ln cn) rfl
          have kx_2 := bxx.c 2 (.int .i64 gdn) rfl
          have kx_3 := bxx.c 3 (.slice Adn Ldn cdn) rfl
          have kze_0 := bxze.c 0 (.int .i64 0) rfl
          have kze_1 := bxze.c 1 (.slice none 0 0) rfl
          have kze_2 := bxze.c 2 (.int .i64 gze) rfl
          have kze_3 := bxze.c 3 (.slice Aze Lze cze) rfl
          go_wp2_with fail
          clear ka_0 ka_1 ka_2 ka_3 kb_0 kb_1 kb_2 kb_3 kr_0 kr_1 kr_2 kr_3 kden_0 kden_1 kn_0 kn_1 kx_0 kx_1 kx_2 kx_3 kze_0 kze_1 kze_2 kze_3
          refine (qcmp_e (HZZ.out _ (by with_reducible repeat' first | exact Ext.refl _ | assumption | apply Ext.alloc_r | apply Ext.drew_r | apply Ext.drewN_r | refine Ext.trans ?_ ‹Ext _ _›)) (HZ2.out.1.ext (by with_reducible repeat' first | exact Ext.refl _ | assumption | apply Ext.alloc_r | apply Ext.drew_r | apply Ext.drewN_r | refine Ext.trans ?_ ‹Ext _ _›)) (by omega) (by omega) HG.out).mono ?_
          rintro e w13 ⟨rfl, x13⟩
          have szw13 : w12.heap.size ≤ w13.heap.size := x13.size
          replace bxa := bxa.ext x13
          replace bxb := bxb.ext x13
          replace bxr := bxr.ext x13
          replace bxden := bxden.ext x13
          replace bxn := bxn.ext x13
          replace bxx := bxx.ext x13
          replace bxze := bxze.ext x13
          clear HG HD HZZ
          clear bxa
          clear bxx
          clear bxze
          have hnp : n ≤ 0 := by rw [← HN.out]; exact nup_neg HQ.out HH.out.2
          have hgp : ¬ gn > 0 := by
            rw [HGN.out]
            rcases sign_cases n with ⟨h5, h6⟩ | ⟨h5, h6⟩ | ⟨h5, h6⟩ <;> omega
          clear HX HGN
          have h00 : ¬ (q1 < 0 ∧ 0 < q2) := fun h => HH.out.2 h.2
          obtain ⟨V, hV⟩ : ∃ V : Int, V = X * (q.den : Int) := ⟨_, rfl⟩
          have v1 : bl V.natAbs ≤ K + 8 := by rw [hV]; have h5 := blz_mul X q.den; omega
          have v2 : bl (V / (Y : Int)).natAbs ≤ K + 8 := Nat.le_trans (blz_div V Y) v1
          have v3 : bl ((Y : Int)).natAbs ≤ K := by rw [bl_nat]; exact p6
          have HUP : Hid (∀ up : Int, (up = if V % (Y : Int) = 0 then V / (Y : Int) - 1 else V / (Y : Int)) → mkRat up q.den = q) := fun up hup => by
            obtain ⟨k1, k2⟩ := below_floor p3 hup
            rw [hV] at k1 k2
            exact HQ.out.up_neg (by rw [HN.out]; exact hnp) h00 p3 HB.out k1 k2
          have HV := Lib.hid hV.symm
          clear hV h00
          have kb_0 := bxb.c 0 (.int .i64 g2) rfl
          have kb_1 := bxb.c 1 (.slice A2 L2 c2) rfl
          have kb_2 := bxb.c 2 (.int .i64 h2) rfl
          have kb_3 := bxb.c 3 (.slice B2 M2 d2) rfl
          have kden_0 := bxden.c 0 (.int .i64 gdn) rfl
          have kden_1 := bxden.c 1 (.slice Adn Ldn cdn) rfl
          have kn_0 := bxn.c 0 (.int .i64 gn) rfl
          have kn_1 := bxn.c 1 (.slice An Ln cn) rfl
          have HSZ := Lib.hid (And.intro True.intro (And.intro hszw0 (And.intro hszr (And.intro szw1 (And.intro szw2 (And.intro szwn (And.intro hb10 (And.intro hl10 (And.intro szw8 (And.intro szw9 (And.intro szw10 (And.intro szw11 (And.intro szw12 szw13)))))))))))))
          clear hszw0 hszr szw1 szw2 szwn hb10 hl10 szw8 szw9 szw10 szw11 szw12 szw13
          go_wp2_with fail
          go_cut [13, 14] (fun s13 s14 wx => PutZ2 w13 wx (V / (Y : Int)) (V % (Y : Int)) s13 s14)
          case first =>
            have HK : Hid (∀ w', Ext w13 w' → Ext w13 w' ∧ w'.cell? ⟨w.heap.size + 1, 0, none⟩ = some (.int .i64 g2) ∧ w'.cell? ⟨w.heap.size + 1, 1, none⟩ = some (.slice A2 L2 c2) ∧ w'.cell? ⟨w.heap.size + 1, 2, none⟩ = some (.int .i64 h2) ∧ w'.cell? ⟨w.heap.size + 1, 3, none⟩ = some (.slice B2 M2 d2) ∧ w'.cell? ⟨w1.heap.size, 0, none⟩ = some (.int .i64 gdn) ∧ w'.cell? ⟨w1.heap.size, 1, none⟩ = some (.slice Adn Ldn cdn) ∧ w'.cell? ⟨b10, 0, none⟩ = some (.int .i64 gn) ∧ w'.cell? ⟨b10, 1, none⟩ = some (.slice An Ln cn)) := fun w' hk => ⟨hk, hk.cell kb_0, hk.cell kb_1, hk.cell kb_2, hk.cell kb_3, hk.cell kden_0, hk.cell kden_1, hk.cell kn_0, hk.cell kn_1⟩
            first
            | go_region_held3 (fun w' => Ext w13 w' ∧ w'.cell? ⟨w.heap.size + 1, 0, none⟩ = some (.int .i64 g2) ∧ w'.cell? ⟨w.heap.size + 1, 1, none⟩ = some (.slice A2 L2 c2) ∧ w'.cell? ⟨w.heap.size + 1, 2, none⟩ = some (.int .i64 h2) ∧ w'.cell? ⟨w.heap.size + 1, 3, none⟩ = some (.slice B2 M2 d2) ∧ w'.cell? ⟨w1.heap.size, 0, none⟩ = some (.int .i64 gdn) ∧ w'.cell? ⟨w1.heap.size, 1, none⟩ = some (.slice Adn Ldn cdn) ∧ w'.cell? ⟨b10, 0, none⟩ = some (.int .i64 gn) ∧ w'.cell? ⟨b10, 1, none⟩ = some (.slice An Ln cn))
                ((with_reducible refine HK.out _ ?_; (repeat' (first | with_reducible exact Ext.refl _ | with_reducible assumption | with_reducible apply Ext.alloc_r | with_reducible apply Ext.drew_r | with_reducible apply Ext.drewN_r | with_reducible apply Ext.set_r | with_reducible exact Nat.le_refl _ | omega | with_reducible refine Ext.trans ?_ ‹Ext _ _›))))
                (first
                  | (go_at_call 78; have hgd := t; clear hgd; refine (rfloor_rz (t.ext (by with_reducible repeat' first | exact Ext.refl _ | assumption | apply Ext.alloc_r | apply Ext.drew_r | apply Ext.drewN_r | refine Ext.trans ?_ ‹Ext _ _›)) (HZ2.out.2.2.ext (by with_reducible repeat' first | exact Ext.refl _ | assumption | apply Ext.alloc_r | apply Ext.drew_r | apply Ext.drewN_r | refine Ext.trans ?_ ‹Ext _ _›)) (by omega) (by omega) (by omega)).mono ?_; rintro e w15 ⟨gaj, Aaj, caj, Laj, gbj, Abj, cbj, Lbj, rfl, ja, jb, x15⟩; (have zs15 := x15.size); (try simp only [World.size_alloc] at zs15); (try ((with_reducible have h15_0 := box_ext (vs := #[.int .i64 0, .slice none 0 0]) x15); have h15_0c0 := (h15_0.1 0 (.int .i64 0) rfl).1; have h15_0f0 := (h15_0.1 0 (.int .i64 0) rfl).2; have h15_0c1 := (h15_0.1 1 (.slice none 0 0) rfl).1; have h15_0f1 := (h15_0.1 1 (.slice none 0 0) rfl).2; have h15_0b := h15_0.2.1; have h15_0z := h15_0.2.2; (try simp only [World.size_alloc] at h15_0b h15_0z h15_0c0 h15_0f0 h15_0c1 h15_0f1); have h15_0m := Nat.ne_of_lt h15_0z; have h15_0n := Nat.ne_of_gt h15_0z; clear h15_0)); (try ((with_reducible have h15_1 := box_ext (vs := #[.int .i64 0, .slice none 0 0]) ((Ext.alloc _ _).trans x15)); have h15_1c0 := (h15_1.1 0 (.int .i64 0) rfl).1; have h15_1f0 := (h15_1.1 0 (.int .i64 0) rfl).2; have h15_1c1 := (h15_1.1 1 (.slice none 0 0) rfl).1; have h15_1f1 := (h15_1.1 1 (.slice none 0 0) rfl).2; have h15_1b := h15_1.2.1; have h15_1z := h15_1.2.2; (try simp only [World.size_alloc] at h15_1b h15_1z h15_1c0 h15_1f0 h15_1c1 h15_1f1); have h15_1m := Nat.ne_of_lt h15_1z; have h15_1n := Nat.ne_of_gt h15_1z; clear h15_1)); (try (have hh : Ext w14 w15 := ?g1500; (case g1500 => ((with_reducible repeat' first | exact Ext.refl _ | assumption | apply Ext.alloc_r | apply Ext.drew_r | apply Ext.drewN_r | refine Ext.trans ?_ ‹Ext _ _›); done)); replace h14_0f0 := hh.frozen h14_0c0 h14_0f0; replace h14_0c0 := hh.cell h14_0c0; replace h14_0f1 := hh.frozen h14_0c1 h14_0f1; replace h14_0c1 := hh.cell h14_0c1; replace h14_0b := h14_0b.ext hh; have h14_0z2 := Nat.lt_of_lt_of_le h14_0z hh.size; have h14_0m2 := Nat.ne_of_lt h14_0z2; have h14_0n2 := Nat.ne_of_gt h14_0z2; clear hh)); (try (have hh : Ext w14 w15 := ?g1501; (case g1501 => ((with_reducible repeat' first | exact Ext.refl _ | assumption | apply Ext.alloc_r | apply Ext.drew_r | apply Ext.drewN_r | refine Ext.trans ?_ ‹Ext _ _›); done)); replace h14_1f0 := hh.frozen h14_1c0 h14_1f0; replace h14_1c0 := hh.cell h14_1c0; replace h14_1f1 := hh.frozen h14_1c1 h14_1f1; replace h14_1c1 := hh.cell h14_1c1; replace h14_1b := h14_1b.ext hh; have h14_1z2 := Nat.lt_of_lt_of_le h14_1z hh.size; have h14_1m2 := Nat.ne_of_lt h14_1z2; have h14_1n2 := Nat.ne_of_gt h14_1z2; clear hh)))
                  | (go_at_call 67; refine (toRZ HV.out (mul_rz (HZ2.out.2.1.ext (by with_reducible repeat' first | exact Ext.refl _ | assumption | apply Ext.alloc_r | apply Ext.drew_r | apply Ext.drewN_r | refine Ext.trans ?_ ‹Ext _ _›)) (HDN.out.ext (by with_reducible repeat' first | exact Ext.refl _ | assumption | apply Ext.alloc_r | apply Ext.drew_r | apply Ext.drewN_r | refine Ext.trans ?_ ‹Ext _ _›)) (by omega) (by omega))).mono ?_; rintro e w14 ⟨gt, At, ct, Lt, rfl, t, x14⟩; (have zs14 := x14.size); (try simp only [World.size_alloc, World.size_drew] at zs14); (try ((with_reducible have h14_0 := box_ext (vs := #[.int .i64 0, .slice none 0 0]) ((Ext.drew _).trans x14)); have h14_0c0 := (h14_0.1 0 (.int .i64 0) rfl).1; have h14_0f0 := (h14_0.1 0 (.int .i64 0) rfl).2; have h14_0c1 := (h14_0.1 1 (.slice none 0 0) rfl).1; have h14_0f1 := (h14_0.1 1 (.slice none 0 0) rfl).2; have h14_0b := h14_0.2.1; have h14_0z := h14_0.2.2; (try simp only [World.size_alloc] at h14_0b h14_0z h14_0c0 h14_0f0 h14_0c1 h14_0f1); have h14_0m := Nat.ne_of_lt h14_0z; have h14_0n := Nat.ne_of_gt h14_0z; clear h14_0)); (try ((with_reducible have h14_1 := box_ext (vs := #[.int .i64 0, .slice none 0 0]) (((Ext.alloc _ _).trans (Ext.drew _)).trans x14)); have h14_1c0 := (h14_1.1 0 (.int .i64 0) rfl).1; have h14_1f0 := (h14_1.1 0 (.int .i64 0) rfl).2; have h14_1c1 := (h14_1.1 1 (.slice none 0 0) rfl).1; have h14_1f1 := (h14_1.1 1 (.slice none 0 0) rfl).2; have h14_1b := h14_1.2.1; have h14_1z := h14_1.2.2; (try simp only [World.size_alloc] at h14_1b h14_1z h14_1c0 h14_1f0 h14_1c1 h14_1f1); have h14_1m := Nat.ne_of_lt h14_1z; have h14_1n := Nat.ne_of_gt h14_1z; clear h14_1))))
            | fail
            all_goals (clear HK; go_wp2_with fail; go_meet)
            all_goals
              refine PutZ2.mk (g := gaj) (A := Aaj) (c := caj) (L := Laj) (g' := gbj) (A' := Abj) (c' := cbj) (L' := Lbj) ?_ ?_ ?_ ?_ ?_ (ja.kept ?_) (jb.kept ?_) ?_
              · (first | exact Nat.le_refl _ | omega | (simp only [World.size_alloc, World.size_drew]; omega) | (simp; omega))
              · (first | exact Nat.le_refl _ | omega | (simp only [World.size_alloc, World.size_drew]; omega) | (simp; omega))
              · (first | omega | (simp; done) | (simp; omega))
              · (repeat' (first | with_reducible assumption | with_reducible apply BK.set2z | (with_reducible apply BK.far2z; (case hne => (first | assumption | omega | (simp; done) | (simp only [World.size_alloc, World.size_drew]; omega)))) | (with_reducible apply BK.far2z; (case hne => (first | assumption | omega | (simp; done) | (simp only [World.size_alloc, World.size_drew]; omega)))) | (with_reducible apply BK.new_z; (first | rfl | (simp; done))) | with_reducible apply BK.alloc_z | with_reducible apply BK.drew_z | with_reducible refine BK.ext ?_ ‹Ext _ _›))
              · (repeat' (first | with_reducible assumption | with_reducible apply BK.set2z | (with_reducible apply BK.far2z; (case hne => (first | assumption | omega | (simp; done) | (simp only [World.size_alloc, World.size_drew]; omega)))) | (with_reducible apply BK.far2z; (case hne => (first | assumption | omega | (simp; done) | (simp only [World.size_alloc, World.size_drew]; omega)))) | (with_reducible apply BK.new_z; (first | rfl | (simp; done))) | with_reducible apply BK.alloc_z | with_reducible apply BK.drew_z | with_reducible refine BK.ext ?_ ‹Ext _ _›))
              · (repeat' (first | with_reducible exact Kept.refl _ | with_reducible apply Kept.alloc_r | with_reducible apply Kept.drew_r | (with_reducible apply Kept.setZ; (case hb => ((repeat' (first | with_reducible assumption | with_reducible apply IsBox.set_ | (with_reducible apply IsBox.new; (first | (with_reducible rfl) | simp); done) | with_reducible apply IsBox.alloc_ | with_reducible apply IsBox.drew_ | with_reducible refine IsBox.ext ?_ ‹Ext _ _›)); done))) | with_reducible refine Kept.trans ?_ (Ext.kept ‹Ext _ _›)))
              · (repeat' (first | with_reducible exact Kept.refl _ | with_reducible apply Kept.alloc_r | with_reducible apply Kept.drew_r | (with_reducible apply Kept.setZ; (case hb => ((repeat' (first | with_reducible assumption | with_reducible apply IsBox.set_ | (with_reducible apply IsBox.new; (first | (with_reducible rfl) | simp); done) | with_reducible apply IsBox.alloc_ | with_reducible apply IsBox.drew_ | with_reducible refine IsBox.ext ?_ ‹Ext _ _›)); done))) | with_reducible refine Kept.trans ?_ (Ext.kept ‹Ext _ _›)))
              · (repeat' (first | with_reducible exact Ext.refl _ | with_reducible assumption | with_reducible apply Ext.alloc_r | with_reducible apply Ext.drew_r | with_reducible apply Ext.drewN_r | with_reducible apply Ext.set_r | with_reducible exact Nat.le_refl _ | omega | with_reducible refine Ext.trans ?_ ‹Ext _ _›))
          case rest =>
            obtain ⟨hszw0, hszr, szw1, szw2, szwn, hb10, hl10, szw8, szw9, szw10, szw11, szw12, szw13⟩ := HSZ.out.2
            clear kb_0 kb_1 kb_2 kb_3 kden_0 kden_1 kn_0 kn_1
            obtain ⟨b13, b14, gu, Au, cu, Lu, gv, Av, cv, Lv, rfl, rfl, hb13, hb14, hn34, bxup, bxrem, u, v, hxc⟩ := hcut
            obtain ⟨wu, rfl⟩ : ∃ z : World, z = wc := ⟨_, rfl⟩
            have szwu : w13.heap.size ≤ wu.heap.size := hxc.size
            replace bxb := bxb.ext hxc
            replace bxr := bxr.ext hxc
            replace bxden := bxden.ext hxc
            replace bxn := bxn.ext hxc
            clear bxb
            clear bxn
            have hgv := v.sign
            have HU := Lib.hid u
            clear u v
            by_cases hr : V % (Y : Int) = 0
            · have hg0 : gv = 0 := by rw [hgv, hr]; rfl
              subst hg0
              have HE := Lib.hid (HUP.out (V / (Y : Int) + -1) (by rw [if_pos hr]; omega))
              have v4 : bl (V / (Y : Int) + -1).natAbs ≤ K + 12 := by
                have h5 : bl (V / (Y : Int) + -1).natAbs ≤ bl ((V / (Y : Int)).natAbs + 1) := bl_mono (by omega)
                have h6 := bl_add (V / (Y : Int)).natAbs 1
                have h7 := bl_one1
                omega
              clear HUP hgv hr
              have kup_0 := bxup.c 0 (.int .i64 gu) rfl
              have fup_0 := bxup.f 0
              have kup_1 := bxup.c 1 (.slice Au Lu cu) rfl
              have fup_1 := bxup.f 1
              have krem_0 := bxrem.c 0 (.int .i64 0) rfl
              have krem_1 := bxrem.c 1 (.slice Av Lv cv) rfl
              go_wp2_with fail
              clear kup_0 fup_0 kup_1 fup_1 krem_0 krem_1
              have kup_0 := bxup.c 0 (.int .i64 gu) rfl
              have kup_1 := bxup.c 1 (.slice Au Lu cu) rfl
              have HKS : Hid (∀ w', Ext wu w' → (w'.cell? ⟨b13, 0, none⟩ = some (.int .i64 gu) ∧ w'.cell? ⟨b13, 1, none⟩ = some (.slice Au Lu cu))) := fun w' hk => ⟨hk.cell kup_0, hk.cell kup_1⟩
              refine wp_region_tail 3 (fun w' => w'.cell? ⟨b13, 0, none⟩ = some (.int .i64 gu) ∧ w'.cell? ⟨b13, 1, none⟩ = some (.slice Au Lu cu)) (by kernel_rfl) ?_ (fun hHeld inv => ?_)
              · (with_reducible refine HKS.out _ ?_; (with_reducible repeat' first | exact Ext.refl _ | assumption | apply Ext.alloc_r | apply Ext.drew_r | apply Ext.drewN_r | refine Ext.trans ?_ ‹Ext _ _›))
              refine wpAnyT_take (i := 0) (v := ?tvu0) rfl (by kernel_rfl) (by kernel_rfl) (by kernel_rfl) (by kernel_rfl) inv (fun _ _ _ h => h) (Or.inl ⟨by rfl, ?thu0⟩) (by assumption) (fun inv => ?tru0)
              case thu0 =>
                intro w5 hSw
                (try dsimp only at hSw)
                go_simp
                (try with_reducible rfl)
              try simp only [Act.put, List.setIfInBounds_toArray]
              refine wpAnyT_head (i := 1) (by kernel_rfl) rfl (by kernel_rfl) inv (fun K hK => ?_)
              clear inv
              go_simp
              (go_at_call 20; refine (small_rz (n := -1) (by omega)).mono ?_; rintro e w16 ⟨go, Ao, co, Lo, rfl, o, x16⟩)
              refine hK.out _ _ ?_ (fun hHeld inv => ?_)
              · clear hK; (try dsimp only)
                (with_reducible refine HKS.out _ ?_; (with_reducible repeat' first | exact Ext.refl _ | assumption | apply Ext.alloc_r | apply Ext.drew_r | apply Ext.drewN_r | refine Ext.trans ?_ ‹Ext _ _›))
              clear hK K
              try simp only [Act.put, List.setIfInBounds_toArray, List.set_cons_zero, List.set_cons_succ]
              refine wpAnyT_head (i := 2) (by kernel_rfl) rfl (by kernel_rfl) inv (fun K hK => ?_)
              clear inv
              go_simp
              (go_at_call 83; refine (add_rz (HU.out.ext (by with_reducible repeat' first | exact Ext.refl _ | assumption | apply Ext.alloc_r | apply Ext.drew_r | apply Ext.drewN_r | refine Ext.trans ?_ ‹Ext _ _›)) (o.ext (by with_reducible repeat' first | exact Ext.refl _ | assumption | apply Ext.alloc_r | apply Ext.drew_r | apply Ext.drewN_r | refine Ext.trans ?_ ‹Ext _ _›)) (by omega) (by have h5 := bl_one1; show bl 1 ≤ _; omega)).mono ?_; rintro e w17 ⟨gt2, At2, ct2, Lt2, rfl, t2, x17⟩; have yl : Ext wu w17 := (by with_reducible repeat' first | exact Ext.refl _ | assumption | apply Ext.alloc_r | apply Ext.drew_r | apply Ext.drewN_r | refine Ext.trans ?_ ‹Ext _ _›); have k2_0 := (bxup.ext yl).c 0 (.int .i64 gu) rfl; have f2_0 := (bxup.ext yl).f 0; have k2_1 := (bxup.ext yl).c 1 (.slice Au Lu cu) rfl; have f2_1 := (bxup.ext yl).f 1)
              refine hK.out _ _ ?_ (fun hHeld inv => ?_)
              · clear hK; (try dsimp only)
                (with_reducible refine HKS.out _ ?_; (with_reducible repeat' first | exact Ext.refl _ | assumption | apply Ext.alloc_r | apply Ext.drew_r | apply Ext.drewN_r | refine Ext.trans ?_ ‹Ext _ _›))
              clear hK K
              try simp only [Act.put, List.setIfInBounds_toArray, List.set_cons_zero, List.set_cons_succ]
              refine wpAnyT_tail (i := 3) (by kernel_rfl) rfl (by kernel_rfl) (fun K hK => ?_)
              (try clear inv)
              go_simp
              refine hK.out _ _ ?_
              clear hK K
              try simp only [Act.put, List.setIfInBounds_toArray, List.set_cons_zero, List.set_cons_succ]
              refine wpAnyT_done (by kernel_rfl) ?_ _
              clear HKS k2_0 k2_1 f2_0 f2_1 kup_0 kup_1
              have xhw17 : Ext wu w17 := (by with_reducible repeat' first | exact Ext.refl _ | assumption | apply Ext.alloc_r | apply Ext.drew_r | apply Ext.drewN_r | refine Ext.trans ?_ ‹Ext _ _›)
              have szw17 : wu.heap.size ≤ w17.heap.size := xhw17.size
              clear yl
              replace bxr := bxr.ext xhw17
              replace bxden := bxden.ext xhw17
              replace bxup := bxup.ext xhw17
              replace bxrem := bxrem.ext xhw17
              have dq := HDN.out
              have t2q := t2
              clear o
              obtain ⟨w18, hw⟩ : ∃ z : World, z = ((w17.setCell ⟨b13, 0, none⟩ (.int .i64 gt2)).setCell ⟨b13, 1, none⟩ (.slice At2 Lt2 ct2)) := ⟨_, rfl⟩
              rw [← hw]
              have kw18 : Kept w17 w18 := by rw [hw]; exact (Kept.set_ (Kept.set_ (Kept.refl _) bxup.isBox plain_Z) (IsBox.set_ bxup.isBox) plain_Z)
              have nbr : BK w18 (w.heap.size + 1 + 1) 38 #[.int .i64 0, .slice none 0 0, .int .i64 0, .slice none 0 0] := by rw [hw]; exact (BK.far (BK.far bxr (show w.heap.size + 1 + 1 ≠ b13 by omega) 0 _) (show w.heap.size + 1 + 1 ≠ b13 by omega) 1 _)
              have nbden : BK w18 (w1.heap.size) 36 #[.int .i64 gdn, .slice Adn Ldn cdn] := by rw [hw]; exact (BK.far (BK.far bxden (show w1.heap.size ≠ b13 by omega) 0 _) (show w1.heap.size ≠ b13 by omega) 1 _)
              have nbup : BK w18 (b13) 36 #[.int .i64 gt2, .slice At2 Lt2 ct2] := by rw [hw]; exact (BK.set (i := 1) (u := .slice At2 Lt2 ct2) (vs' := #[.int .i64 gt2, .slice At2 Lt2 ct2]) (BK.set (i := 0) (u := .int .i64 gt2) (vs' := #[.int .i64 gt2, .slice Au Lu cu]) bxup rfl) rfl)
              have nbrem : BK w18 (b14) 36 #[.int .i64 0, .slice Av Lv cv] := by rw [hw]; exact (BK.far (BK.far bxrem (show b14 ≠ b13 by omega) 0 _) (show b14 ≠ b13 by omega) 1 _)
              have x18 : Ext w w18 := by rw [hw]; have hxp : Ext w w17 := (by with_reducible repeat' first | exact Ext.refl _ | assumption | apply Ext.alloc_r | apply Ext.drew_r | apply Ext.drewN_r | refine Ext.trans ?_ ‹Ext _ _›); exact (Ext.set_ (Ext.set_ hxp (show _ ≤ b13 by omega)) (show _ ≤ b13 by omega))
              clear bxr
              clear bxden
              clear bxup
              clear bxrem
              have bxr := nbr
              clear nbr
              have bxden := nbden
              clear nbden
              have bxup := nbup
              clear nbup
              have bxrem := nbrem
              clear nbrem
              have szw18 : w18.heap.size = w17.heap.size := by rw [hw]; simp
              replace t2q := (t2q.ext (by with_reducible repeat' first | exact Ext.refl _ | assumption | apply Ext.alloc_r | apply Ext.drew_r | apply Ext.drewN_r | refine Ext.trans ?_ ‹Ext _ _›)).kept kw18
              replace dq := (dq.ext (by with_reducible repeat' first | exact Ext.refl _ | assumption | apply Ext.alloc_r | apply Ext.drew_r | apply Ext.drewN_r | refine Ext.trans ?_ ‹Ext _ _›)).kept kw18
              clear hw kw18
              have hxq := qr_mk (K := K + 20) t2q dq (by omega) (by omega) (by omega)
              clear t2q dq t2
              have kr_0 := bxr.c 0 (.int .i64 0) rfl
              have fr_0 := bxr.f 0
              have kr_1 := bxr.c 1 (.slice none 0 0) rfl
              have fr_1 := bxr.f 1
              have kr_2 := bxr.c 2 (.int .i64 0) rfl
              have fr_2 := bxr.f 2
              have kr_3 := bxr.c 3 (.slice none 0 0) rfl
              have fr_3 := bxr.f 3
              have kden_0 := bxden.c 0 (.int .i64 gdn) rfl
              have kden_1 := bxden.c 1 (.slice Adn Ldn cdn) rfl
              have kup_0 := bxup.c 0 (.int .i64 gt2) rfl
              have kup_1 := bxup.c 1 (.slice At2 Lt2 ct2) rfl
              have krem_0 := bxrem.c 0 (.int .i64 0) rfl
              have krem_1 := bxrem.c 1 (.slice Av Lv cv) rfl
              go_wp2_with fail
              clear kr_0 fr_0 kr_1 fr_1 kr_2 fr_2 kr_3 fr_3 kden_0 kden_1 kup_0 kup_1 krem_0 krem_1
              obtain ⟨w19, hw⟩ : ∃ z : World, z = ((((w18.setCell ⟨w.heap.size + 1 + 1, 0, none⟩ (.int .i64 gt2)).setCell ⟨w.heap.size + 1 + 1, 1, none⟩ (.slice At2 Lt2 ct2)).setCell ⟨w.heap.size + 1 + 1, 2, none⟩ (.int .i64 gdn)).setCell ⟨w.heap.size + 1 + 1, 3, none⟩ (.slice Adn Ldn cdn)) := ⟨_, rfl⟩
              rw [← hw]
              have kw19 : Kept w18 w19 := by rw [hw]; exact (Kept.set_ (Kept.set_ (Kept.set_ (Kept.set_ (Kept.refl _) bxr.isBox plain_Q) (IsBox.set_ bxr.isBox) plain_Q) (IsBox.set_ (IsBox.set_ bxr.isBox)) plain_Q) (IsBox.set_ (IsBox.set_ (IsBox.set_ bxr.isBox))) plain_Q)
              have nbr : BK w19 (w.heap.size + 1 + 1) 38 #[.int .i64 gt2, .slice At2 Lt2 ct2, .int .i64 gdn, .slice Adn Ldn cdn] := by rw [hw]; exact (BK.set (i := 3) (u := .slice Adn Ldn cdn) (vs' := #[.int .i64 gt2, .slice At2 Lt2 ct2, .int .i64 gdn, .slice Adn Ldn cdn]) (BK.set (i := 2) (u := .int .i64 gdn) (vs' := #[.int .i64 gt2, .slice At2 Lt2 ct2, .int .i64 gdn, .slice none 0 0]) (BK.set (i := 1) (u := .slice At2 Lt2 ct2) (vs' := #[.int .i64 gt2, .slice At2 Lt2 ct2, .int .i64 0, .slice none 0 0]) (BK.set (i := 0) (u := .int .i64 gt2) (vs' := #[.int .i64 gt2, .slice none 0 0, .int .i64 0, .slice none 0 0]) bxr rfl) rfl) rfl) rfl)
              have nbden : BK w19 (w1.heap.size) 36 #[.int .i64 gdn, .slice Adn Ldn cdn] := by rw [hw]; exact (BK.far (BK.far (BK.far (BK.far bxden (show w1.heap.size ≠ w.heap.size + 1 + 1 by omega) 0 _) (show w1.heap.size ≠ w.heap.size + 1 + 1 by omega) 1 _) (show w1.heap.size ≠ w.heap.size + 1 + 1 by omega) 2 _) (show w1.heap.size ≠ w.heap.size + 1 + 1 by omega) 3 _)
              have nbup : BK w19 (b13) 36 #[.int .i64 gt2, .slice At2 Lt2 ct2] := by rw [hw]; exact (BK.far (BK.far (BK.far (BK.far bxup (show b13 ≠ w.heap.size + 1 + 1 by omega) 0 _) (show b13 ≠ w.heap.size + 1 + 1 by omega) 1 _) (show b13 ≠ w.heap.size + 1 + 1 by omega) 2 _) (show b13 ≠ w.heap.size + 1 + 1 by omega) 3 _)
              have nbrem : BK w19 (b14) 36 #[.int .i64 0, .slice Av Lv cv] := by rw [hw]; exact (BK.far (BK.far (BK.far (BK.far bxrem (show b14 ≠ w.heap.size + 1 + 1 by omega) 0 _) (show b14 ≠ w.heap.size + 1 + 1 by omega) 1 _) (show b14 ≠ w.heap.size + 1 + 1 by omega) 2 _) (show b14 ≠ w.heap.size + 1 + 1 by omega) 3 _)
              have x19 : Ext w w19 := by rw [hw]; have hxp : Ext w w18 := (by with_reducible repeat' first | exact Ext.refl _ | assumption | apply Ext.alloc_r | apply Ext.drew_r | apply Ext.drewN_r | refine Ext.trans ?_ ‹Ext _ _›); exact (Ext.set_ (Ext.set_ (Ext.set_ (Ext.set_ hxp (show _ ≤ w.heap.size + 1 + 1 by omega)) (show _ ≤ w.heap.size + 1 + 1 by omega)) (show _ ≤ w.heap.size + 1 + 1 by omega)) (show _ ≤ w.heap.size + 1 + 1 by omega))
              clear bxr
              clear bxden
              clear bxup
              clear bxrem
              have bxr := nbr
              clear nbr
              have bxden := nbden
              clear nbden
              have bxup := nbup
              clear nbup
              have bxrem := nbrem
              clear nbrem
              have szw19 : w19.heap.size = w18.heap.size := by rw [hw]; simp
              replace hxq := (hxq.ext (by with_reducible repeat' first | exact Ext.refl _ | assumption | apply Ext.alloc_r | apply Ext.drew_r | apply Ext.drewN_r | refine Ext.trans ?_ ‹Ext _ _›)).kept kw19
              clear hw kw19
              have kr_0 := bxr.c 0 (.int .i64 gt2) rfl
              have kr_1 := bxr.c 1 (.slice At2 Lt2 ct2) rfl
              have kr_2 := bxr.c 2 (.int .i64 gdn) rfl
              have kr_3 := bxr.c 3 (.slice Adn Ldn cdn) rfl
              refine bodyPost_ret (v := .tuple #[.agg #[.int .i64 gt2, .slice At2 Lt2 ct2, .int .i64 gdn, .slice Adn Ldn cdn], .bool true]) (by simp [results, Try.results52, go_sem, kr_0, kr_1, kr_2, kr_3]) rfl ?_
              exact ⟨_, _, _, _, _, _, _, _, _, rfl, fun _ => by rw [← HE.out]; exact hxq, x19⟩
            · have hg0 : (gv == 0) = false := by rw [hgv, beq_eq_false_iff_ne]; exact fun h => hr (Int.sign_eq_zero_iff_zero.1 h)
              have HE := Lib.hid (HUP.out (V / (Y : Int)) (by rw [if_neg hr]))
              clear HUP hgv hr
              have hxq := qr_mk (K := K + 20) (HU.out.ext (show Ext _ wu from (by with_reducible repeat' first | exact Ext.refl _ | assumption | apply Ext.alloc_r | apply Ext.drew_r | apply Ext.drewN_r | refine Ext.trans ?_ ‹Ext _ _›))) (HDN.out.ext (show Ext _ wu from (by with_reducible repeat' first | exact Ext.refl _ | assumption | apply Ext.alloc_r | apply Ext.drew_r | apply Ext.drewN_r | refine Ext.trans ?_ ‹Ext _ _›))) (by omega) (by omega) (by omega)
              have kr_0 := bxr.c 0 (.int .i64 0) rfl
              have fr_0 := bxr.f 0
              have kr_1 := bxr.c 1 (.slice none 0 0) rfl
              have fr_1 := bxr.f 1
              have kr_2 := bxr.c 2 (.int .i64 0) rfl
              have fr_2 := bxr.f 2
              have kr_3 := bxr.c 3 (.slice none 0 0) rfl
              have fr_3 := bxr.f 3
              have kden_0 := bxden.c 0 (.int .i64 gdn) rfl
              have kden_1 := bxden.c 1 (.slice Adn Ldn cdn) rfl
              have kup_0 := bxup.c 0 (.int .i64 gu) rfl
              have kup_1 := bxup.c 1 (.slice Au Lu cu) rfl
              have krem_0 := bxrem.c 0 (.int .i64 gv) rfl
              have krem_1 := bxrem.c 1 (.slice Av Lv cv) rfl
              go_wp2_with fail
              clear kr_0 fr_0 kr_1 fr_1 kr_2 fr_2 kr_3 fr_3 kden_0 kden_1 kup_0 kup_1 krem_0 krem_1
              obtain ⟨w16, hw⟩ : ∃ z : World, z = ((((wu.setCell ⟨w.heap.size + 1 + 1, 0, none⟩ (.int .i64 gu)).setCell ⟨w.heap.size + 1 + 1, 1, none⟩ (.slice Au Lu cu)).setCell ⟨w.heap.size + 1 + 1, 2, none⟩ (.int .i64 gdn)).setCell ⟨w.heap.size + 1 + 1, 3, none⟩ (.slice Adn Ldn cdn)) := ⟨_, rfl⟩
              rw [← hw]
              have kw16 : Kept wu w16 := by rw [hw]; exact (Kept.set_ (Kept.set_ (Kept.set_ (Kept.set_ (Kept.refl _) bxr.isBox plain_Q) (IsBox.set_ bxr.isBox) plain_Q) (IsBox.set_ (IsBox.set_ bxr.isBox)) plain_Q) (IsBox.set_ (IsBox.set_ (IsBox.set_ bxr.isBox))) plain_Q)
              have nbr : BK w16 (w.heap.size + 1 + 1) 38 #[.int .i64 gu, .slice Au Lu cu, .int .i64 gdn, .slice Adn Ldn cdn] := by rw [hw]; exact (BK.set (i := 3) (u := .slice Adn Ldn cdn) (vs' := #[.int .i64 gu, .slice Au Lu cu, .int .i64 gdn, .slice Adn Ldn cdn]) (BK.set (i := 2) (u := .int .i64 gdn) (vs' := #[.int .i64 gu, .slice Au Lu cu, .int .i64 gdn, .slice none 0 0]) (BK.set (i := 1) (u := .slice Au Lu cu) (vs' := #[.int .i64 gu, .slice Au Lu cu, .int .i64 0, .slice none 0 0]) (BK.set (i := 0) (u := .int .i64 gu) (vs' := #[.int .i64 gu, .slice none 0 0, .int .i64 0, .slice none 0 0]) bxr rfl) rfl) rfl) rfl)
              have nbden : BK w16 (w1.heap.size) 36 #[.int .i64 gdn, .slice Adn Ldn cdn] := by rw [hw]; exact (BK.far (BK.far (BK.far (BK.far bxden (show w1.heap.size ≠ w.heap.size + 1 + 1 by omega) 0 _) (show w1.heap.size ≠ w.heap.size + 1 + 1 by omega) 1 _) (show w1.heap.size ≠ w.heap.size + 1 + 1 by omega) 2 _) (show w1.heap.size ≠ w.heap.size + 1 + 1 by omega) 3 _)
              have nbup : BK w16 (b13) 36 #[.int .i64 gu, .slice Au Lu cu] := by rw [hw]; exact (BK.far (BK.far (BK.far (BK.far bxup (show b13 ≠ w.heap.size + 1 + 1 by omega) 0 _) (show b13 ≠ w.heap.size + 1 + 1 by omega) 1 _) (show b13 ≠ w.heap.size + 1 + 1 by omega) 2 _) (show b13 ≠ w.heap.size + 1 + 1 by omega) 3 _)
              have nbrem : BK w16 (b14) 36 #[.int .i64 gv, .slice Av Lv cv] := by rw [hw]; exact (BK.far (BK.far (BK.far (BK.far bxrem (show b14 ≠ w.heap.size + 1 + 1 by omega) 0 _) (show b14 ≠ w.heap.size + 1 + 1 by omega) 1 _) (show b14 ≠ w.heap.size + 1 + 1 by omega) 2 _) (show b14 ≠ w.heap.size + 1 + 1 by omega) 3 _)
              have x16 : Ext w w16 := by rw [hw]; have hxp : Ext w wu := (by with_reducible repeat' first | exact Ext.refl _ | assumption | apply Ext.alloc_r | apply Ext.drew_r | apply Ext.drewN_r | refine Ext.trans ?_ ‹Ext _ _›); exact (Ext.set_ (Ext.set_ (Ext.set_ (Ext.set_ hxp (show _ ≤ w.heap.size + 1 + 1 by omega)) (show _ ≤ w.heap.size + 1 + 1 by omega)) (show _ ≤ w.heap.size + 1 + 1 by omega)) (show _ ≤ w.heap.size + 1 + 1 by omega))
              clear bxr
              clear bxden
              clear bxup
              clear bxrem
              have bxr := nbr
              clear nbr
              have bxden := nbden
              clear nbden
              have bxup := nbup
              clear nbup
              have bxrem := nbrem
              clear nbrem
              have szw16 : w16.heap.size = wu.heap.size := by rw [hw]; simp
              replace hxq := (hxq.ext (by with_reducible repeat' first | exact Ext.refl _ | assumption | apply Ext.alloc_r | apply Ext.drew_r | apply Ext.drewN_r | refine Ext.trans ?_ ‹Ext _ _›)).kept kw16
              clear hw kw16
              have kr_0 := bxr.c 0 (.int .i64 gu) rfl
              have kr_1 := bxr.c 1 (.slice Au Lu cu) rfl
              have kr_2 := bxr.c 2 (.int .i64 gdn) rfl
              have kr_3 := bxr.c 3 (.slice Adn Ldn cdn) rfl
              refine bodyPost_ret (v := .tuple #[.agg #[.int .i64 gu, .slice Au Lu cu, .int .i64 gdn, .slice Adn Ldn cdn], .bool true]) (by simp [results, Try.results52, go_sem, kr_0, kr_1, kr_2, kr_3]) rfl ?_
              exact ⟨_, _, _, _, _, _, _, _, _, rfl, fun _ => by rw [← HE.out]; exact hxq, x16⟩
    · skip
      have ka_0 := bxa.c 0 (.int .i64 g1) rfl
      have ka_1 := bxa.c 1 (.slice A1 L1 c1) rfl
      have ka_2 := bxa.c 2 (.int .i64 h1) rfl
      have ka_3 := bxa.c 3 (.slice B1 M1 d1) rfl
      have kb_0 := bxb.c 0 (.int .i64 g2) rfl
      have kb_1 := bxb.c 1 (.slice A2 L2 c2) rfl
      have kb_2 := bxb.c 2 (.int .i64 h2) rfl
      have kb_3 := bxb.c 3 (.slice B2 M2 d2) rfl
      have kr_0 := bxr.c 0 (.int .i64 0) rfl
      have fr_0 := bxr.f 0
      have kr_1 := bxr.c 1 (.slice none 0 0) rfl
      have fr_1 := bxr.f 1
      have kr_2 := bxr.c 2 (.int .i64 0) rfl
      have fr_2 := bxr.f 2
      have kr_3 := bxr.c 3 (.slice none 0 0) rfl
      have fr_3 := bxr.f 3
      go_wp2_with fail
      clear ka_0 ka_1 ka_2 ka_3 kb_0 kb_1 kb_2 kb_3 kr_0 fr_0 kr_1 fr_1 kr_2 fr_2 kr_3 fr_3
      obtain ⟨w17, hw⟩ : ∃ z : World, z = ((((wr.setCell ⟨w.heap.size + 1 + 1, 0, none⟩ (.int .i64 0)).setCell ⟨w.heap.size + 1 + 1, 1, none⟩ (.slice none 0 0)).setCell ⟨w.heap.size + 1 + 1, 2, none⟩ (.int .i64 0)).setCell ⟨w.heap.size + 1 + 1, 3, none⟩ (.slice none 0 0)) := ⟨_, rfl⟩
      rw [← hw]
      have kw17 : Kept wr w17 := by rw [hw]; exact (Kept.set_ (Kept.set_ (Kept.set_ (Kept.set_ (Kept.refl _) bxr.isBox plain_Q) (IsBox.set_ bxr.isBox) plain_Q) (IsBox.set_ (IsBox.set_ bxr.isBox)) plain_Q) (IsBox.set_ (IsBox.set_ (IsBox.set_ bxr.isBox))) plain_Q)
      have nba : BK w17 (w.heap.size) 38 #[.int .i64 g1, .slice A1 L1 c1, .int .i64 h1, .slice B1 M1 d1] := by rw [hw]; exact (BK.far (BK.far (BK.far (BK.far bxa (show w.heap.size ≠ w.heap.size + 1 + 1 by omega) 0 _) (show w.heap.size ≠ w.heap.size + 1 + 1 by omega) 1 _) (show w.heap.size ≠ w.heap.size + 1 + 1 by omega) 2 _) (show w.heap.size ≠ w.heap.size + 1 + 1 by omega) 3 _)
      have nbb : BK w17 (w.heap.size + 1) 38 #[.int .i64 g2, .slice A2 L2 c2, .int .i64 h2, .slice B2 M2 d2] := by rw [hw]; exact (BK.far (BK.far (BK.far (BK.far bxb (show w.heap.size + 1 ≠ w.heap.size + 1 + 1 by omega) 0 _) (show w.heap.size + 1 ≠ w.heap.size + 1 + 1 by omega) 1 _) (show w.heap.size + 1 ≠ w.heap.size + 1 + 1 by omega) 2 _) (show w.heap.size + 1 ≠ w.heap.size + 1 + 1 by omega) 3 _)
      have nbr : BK w17 (w.heap.size + 1 + 1) 38 #[.int .i64 0, .slice none 0 0, .int .i64 0, .slice none 0 0] := by rw [hw]; exact (BK.set (i := 3) (u := .slice none 0 0) (vs' := #[.int .i64 0, .slice none 0 0, .int .i64 0, .slice none 0 0]) (BK.set (i := 2) (u := .int .i64 0) (vs' := #[.int .i64 0, .slice none 0 0, .int .i64 0, .slice none 0 0]) (BK.set (i := 1) (u := .slice none 0 0) (vs' := #[.int .i64 0, .slice none 0 0, .int .i64 0, .slice none 0 0]) (BK.set (i := 0) (u := .int .i64 0) (vs' := #[.int .i64 0, .slice none 0 0, .int .i64 0, .slice none 0 0]) bxr rfl) rfl) rfl) rfl)
      have x17 : Ext w w17 := by rw [hw]; have hxp : Ext w wr := (by with_reducible repeat' first | exact Ext.refl _ | assumption | apply Ext.alloc_r | apply Ext.drew_r | apply Ext.drewN_r | refine Ext.trans ?_ ‹Ext _ _›); exact (Ext.set_ (Ext.set_ (Ext.set_ (Ext.set_ hxp (show _ ≤ w.heap.size + 1 + 1 by omega)) (show _ ≤ w.heap.size + 1 + 1 by omega)) (show _ ≤ w.heap.size + 1 + 1 by omega)) (show _ ≤ w.heap.size + 1 + 1 by omega))
      clear bxa
      clear bxb
      clear bxr
      have bxa := nba
      clear nba
      have bxb := nbb
      clear nbb
      have bxr := nbr
      clear nbr
      have szw17 : w17.heap.size = wr.heap.size := by rw [hw]; simp
      clear hw kw17
      have kr_0 := bxr.c 0 (.int .i64 0) rfl
      have kr_1 := bxr.c 1 (.slice none 0 0) rfl
      have kr_2 := bxr.c 2 (.int .i64 0) rfl
      have kr_3 := bxr.c 3 (.slice none 0 0) rfl
      refine bodyPost_ret (v := .tuple #[.agg #[.int .i64 0, .slice none 0 0, .int .i64 0, .slice none 0 0], .bool false]) (by simp [results, Try.results52, go_sem, kr_0, kr_1, kr_2, kr_3]) rfl ?_
      exact ⟨_, _, _, _, _, _, _, _, _, rfl, (fun h => by cases h), x17⟩
theorem qsimp_r {w : World} {g1 h1 g2 h2 : Int} {A1 B1 A2 B2 : Option Addr} {c1 d1 L1 M1 c2 d2 L2 M2 K : Nat} {q1 q2 q : Rat} (z1 : QR w g1 A1 c1 L1 h1 B1 d1 M1 K q1) (z2 : QR w g2 A2 c2 L2 h2 B2 d2 M2 K q2) (hK : K ≤ 1000) (hq : IsSimp q1 q2 q) :
    Calls Try.prog 52 #[Value.agg #[Value.int IntKind.i64 g1, Value.slice A1 L1 c1, Value.int IntKind.i64 h1, Value.slice B1 M1 d1], Value.agg #[Value.int IntKind.i64 g2, Value.slice A2 L2 c2, Value.int IntKind.i64 h2, Value.slice B2 M2 d2], .int .i64 200] w (RetQB w (K + 20) q) := by
  by_cases h1 : q1 < 0
  · by_cases h2 : 0 < q2
    · exact qsimp_zero z1 z2 hK hq ⟨h1, h2⟩
    · exact qsimp_neg z1 z2 hK hq ⟨h1, h2⟩
  · exact qsimp_pos z1 z2 hK hq h1
end Go.Proofs.Ytfnmbhjifdfibaa
