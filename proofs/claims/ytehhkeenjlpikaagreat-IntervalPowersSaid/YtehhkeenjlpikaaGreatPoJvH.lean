/- Powers of an interval of the reference. -/
import Derived.Test.YtehhkeenjlpikaaGreatPoJvG
import Derived.Deep.RegionHeldLaw
import Derived.Deep.LoopGhost
import Derived.Deep.QuietTactic
import Derived.BigQuiet
namespace Go.Proofs.YtehhkeenjlpikaaGreat
open Go.RowKit
set_option maxHeartbeats 4000000 in
set_option maxRecDepth 100000 in
theorem jpow_k0 {w : World} {K k : Nat} {g1 h1 g2 h2 : Int} {A1 B1 A2 B2 : Option Addr} {c1 d1 L1 M1 c2 d2 L2 M2 : Nat} {q1 q2 : Rat} (h_1 : QR w g1 A1 c1 L1 h1 B1 d1 M1 K q1) (h_2 : QR w g2 A2 c2 L2 h2 B2 d2 M2 K q2) (hle : q1 ≤ q2) (hK1 : 1 ≤ K) (hk : k ≤ 1000) (hK : K ≤ 1000) (hk0 : k = 0) :
    Calls Tryz.prog 45 #[Value.agg #[Value.int IntKind.i64 g1, Value.slice A1 L1 c1, Value.int IntKind.i64 h1, Value.slice B1 M1 d1, Value.int IntKind.i64 g2, Value.slice A2 L2 c2, Value.int IntKind.i64 h2, Value.slice B2 M2 d2], .int .i64 k] w (RetJ w (1 + k * K) (plo q1 q2 k) (phi q1 q2 k)) := by
  have HE := Lib.hid (plo_out hle (n := k) (fun h => by omega))
  have hd1 : decide ((k : Int) > 0) = false := decide_eq_false (by omega)
  have hd2 : decide (0 < k) = false := decide_eq_false (by omega)
  clear hk0
  obtain ⟨D, hD⟩ : ∃ D, D = 1 + k * K := ⟨_, rfl⟩
  have hD1 : 1 ≤ D := by omega
  have hD2 : D ≤ 100000000 := by
    have h5 : k * K ≤ 1000 * 1000 := Nat.mul_le_mul hk hK
    omega
  have HP1 : Hid (∀ w', Ext w w' → Calls Tryz.prog 73 #[Value.agg #[Value.int IntKind.i64 g1, Value.slice A1 L1 c1, Value.int IntKind.i64 h1, Value.slice B1 M1 d1], .int .i64 k] w' (RetQ w' D (q1 ^ k))) := fun w' hx => by rw [hD]; exact jpower_r (h_1.ext hx) hK1 hk hK
  have HP2 : Hid (∀ w', Ext w w' → Calls Tryz.prog 73 #[Value.agg #[Value.int IntKind.i64 g2, Value.slice A2 L2 c2, Value.int IntKind.i64 h2, Value.slice B2 M2 d2], .int .i64 k] w' (RetQ w' D (q2 ^ k))) := fun w' hx => by rw [hD]; exact jpower_r (h_2.ext hx) hK1 hk hK
  rw [← hD]
  clear hD hle
  go_enter Tryz.func45, Tryz.ntmps45
  go_wp2_with fail
  obtain ⟨w0, hw0⟩ : ∃ z : World, z = ((w.alloc (.cells #[.int .i64 g1, .slice A1 L1 c1, .int .i64 h1, .slice B1 M1 d1, .int .i64 g2, .slice A2 L2 c2, .int .i64 h2, .slice B2 M2 d2] 38)).alloc (.cells #[.int .i64 0, .slice none 0 0, .int .i64 0, .slice none 0 0, .int .i64 0, .slice none 0 0, .int .i64 0, .slice none 0 0] 38)) := ⟨_, rfl⟩
  rw [← hw0]
  have bxi : BK w0 (w.heap.size) 38 #[.int .i64 g1, .slice A1 L1 c1, .int .i64 h1, .slice B1 M1 d1, .int .i64 g2, .slice A2 L2 c2, .int .i64 h2, .slice B2 M2 d2] := by rw [hw0]; have h5 := (BK.ext (BK.new w #[.int .i64 g1, .slice A1 L1 c1, .int .i64 h1, .slice B1 M1 d1, .int .i64 g2, .slice A2 L2 c2, .int .i64 h2, .slice B2 M2 d2] 38) (Ext.alloc _ (.cells #[.int .i64 0, .slice none 0 0, .int .i64 0, .slice none 0 0, .int .i64 0, .slice none 0 0, .int .i64 0, .slice none 0 0] 38))); simpa only [World.size_alloc] using h5
  have bxr : BK w0 (w.heap.size + 1) 38 #[.int .i64 0, .slice none 0 0, .int .i64 0, .slice none 0 0, .int .i64 0, .slice none 0 0, .int .i64 0, .slice none 0 0] := by rw [hw0]; have h5 := (BK.new (w.alloc (.cells #[.int .i64 g1, .slice A1 L1 c1, .int .i64 h1, .slice B1 M1 d1, .int .i64 g2, .slice A2 L2 c2, .int .i64 h2, .slice B2 M2 d2] 38)) #[.int .i64 0, .slice none 0 0, .int .i64 0, .slice none 0 0, .int .i64 0, .slice none 0 0, .int .i64 0, .slice none 0 0] 38); simpa only [World.size_alloc] using h5
  have hszw0 : w0.heap.size = w.heap.size + 1 + 1 := by rw [hw0]; simp only [World.size_alloc]
  have xw0 : Ext w w0 := by rw [hw0]; exact ((Ext.alloc _ _).trans (Ext.alloc _ _))
  clear hw0
  have bxr0 := bxr
  have ki_0 := bxi.c 0 (.int .i64 g1) rfl
  have ki_1 := bxi.c 1 (.slice A1 L1 c1) rfl
  have ki_2 := bxi.c 2 (.int .i64 h1) rfl
  have ki_3 := bxi.c 3 (.slice B1 M1 d1) rfl
  have ki_4 := bxi.c 4 (.int .i64 g2) rfl
  have ki_5 := bxi.c 5 (.slice A2 L2 c2) rfl
  have ki_6 := bxi.c 6 (.int .i64 h2) rfl
  have ki_7 := bxi.c 7 (.slice B2 M2 d2) rfl
  have kr_0 := bxr.c 0 (.int .i64 0) rfl
  have kr_1 := bxr.c 1 (.slice none 0 0) rfl
  have kr_2 := bxr.c 2 (.int .i64 0) rfl
  have kr_3 := bxr.c 3 (.slice none 0 0) rfl
  have kr_4 := bxr.c 4 (.int .i64 0) rfl
  have kr_5 := bxr.c 5 (.slice none 0 0) rfl
  have kr_6 := bxr.c 6 (.int .i64 0) rfl
  have kr_7 := bxr.c 7 (.slice none 0 0) rfl
  go_wp2_with fail
  have HK : Hid (∀ w', Ext w0 w' → (w'.cell? ⟨w.heap.size, 0, none⟩ = some (.int .i64 g1) ∧ w'.cell? ⟨w.heap.size, 1, none⟩ = some (.slice A1 L1 c1) ∧ w'.cell? ⟨w.heap.size, 2, none⟩ = some (.int .i64 h1) ∧ w'.cell? ⟨w.heap.size, 3, none⟩ = some (.slice B1 M1 d1) ∧ w'.cell? ⟨w.heap.size, 4, none⟩ = some (.int .i64 g2) ∧ w'.cell? ⟨w.heap.size, 5, none⟩ = some (.slice A2 L2 c2) ∧ w'.cell? ⟨w.heap.size, 6, none⟩ = some (.int .i64 h2) ∧ w'.cell? ⟨w.heap.size, 7, none⟩ = some (.slice B2 M2 d2))) := fun w' hk => ⟨hk.cell ki_0, hk.cell ki_1, hk.cell ki_2, hk.cell ki_3, hk.cell ki_4, hk.cell ki_5, hk.cell ki_6, hk.cell ki_7⟩
  go_region_held3 (fun w' => w'.cell? ⟨w.heap.size, 0, none⟩ = some (.int .i64 g1) ∧ w'.cell? ⟨w.heap.size, 1, none⟩ = some (.slice A1 L1 c1) ∧ w'.cell? ⟨w.heap.size, 2, none⟩ = some (.int .i64 h1) ∧ w'.cell? ⟨w.heap.size, 3, none⟩ = some (.slice B1 M1 d1) ∧ w'.cell? ⟨w.heap.size, 4, none⟩ = some (.int .i64 g2) ∧ w'.cell? ⟨w.heap.size, 5, none⟩ = some (.slice A2 L2 c2) ∧ w'.cell? ⟨w.heap.size, 6, none⟩ = some (.int .i64 h2) ∧ w'.cell? ⟨w.heap.size, 7, none⟩ = some (.slice B2 M2 d2))
    ((with_reducible refine HK.out _ ?_; (with_reducible repeat' first | exact Ext.refl _ | assumption | apply Ext.alloc_r | apply Ext.drew_r | apply Ext.drewN_r | refine Ext.trans ?_ ‹Ext _ _›)))
    (first
      | (go_at_call_of 73 (#[Value.agg #[Value.int IntKind.i64 g2, Value.slice A2 L2 c2, Value.int IntKind.i64 h2, Value.slice B2 M2 d2], Value.int IntKind.i64 (k : Int)]); have hgd := u; clear hgd; refine (HP2.out _ (by with_reducible repeat' first | exact Ext.refl _ | assumption | apply Ext.alloc_r | apply Ext.drew_r | apply Ext.drewN_r | refine Ext.trans ?_ ‹Ext _ _›)).mono ?_; rintro e w2 ⟨gv, Av, cv, Lv, hv, Bv, dv, Mv, rfl, v, x2⟩)
      | (go_at_call_of 73 (#[Value.agg #[Value.int IntKind.i64 g1, Value.slice A1 L1 c1, Value.int IntKind.i64 h1, Value.slice B1 M1 d1], Value.int IntKind.i64 (k : Int)]); refine (HP1.out _ (by with_reducible repeat' first | exact Ext.refl _ | assumption | apply Ext.alloc_r | apply Ext.drew_r | apply Ext.drewN_r | refine Ext.trans ?_ ‹Ext _ _›)).mono ?_; rintro e w1 ⟨gu, Au, cu, Lu, hu, Bu, du, Mu, rfl, u, x1⟩))
  clear ki_0 ki_1 ki_2 ki_3 ki_4 ki_5 ki_6 ki_7 kr_0 kr_1 kr_2 kr_3 kr_4 kr_5 kr_6 kr_7
  clear HK
  have szw1 : w0.heap.size ≤ w1.heap.size := (show Ext w0 w1 from (by with_reducible repeat' first | exact Ext.refl _ | assumption | apply Ext.alloc_r | apply Ext.drew_r | apply Ext.drewN_r | refine Ext.trans ?_ ‹Ext _ _›)).size
  have xhw2 : Ext w0 w2 := (by with_reducible repeat' first | exact Ext.refl _ | assumption | apply Ext.alloc_r | apply Ext.drew_r | apply Ext.drewN_r | refine Ext.trans ?_ ‹Ext _ _›)
  have szw2 : w0.heap.size ≤ w2.heap.size := xhw2.size
  replace bxi := bxi.ext xhw2
  replace bxr := bxr.ext xhw2
  obtain ⟨wl, hw⟩ : ∃ z : World, z = w2.alloc (.cells #[.int .i64 gu, .slice Au Lu cu, .int .i64 hu, .slice Bu Mu du, .int .i64 gv, .slice Av Lv cv, .int .i64 hv, .slice Bv Mv dv] 36) := ⟨_, rfl⟩
  rw [← hw]
  have xl : Ext w2 wl := by rw [hw]; exact Ext.alloc _ _
  have HG : Hid (GQ wl w0.heap.size D [q1 ^ k, q2 ^ k] (some ⟨w2.heap.size, 0, none⟩) 2) := by rw [hw]; exact GQ.two (by omega) (u.ext (by with_reducible repeat' first | exact Ext.refl _ | assumption | apply Ext.alloc_r | apply Ext.drew_r | apply Ext.drewN_r | refine Ext.trans ?_ ‹Ext _ _›)) (v.ext (by with_reducible repeat' first | exact Ext.refl _ | assumption | apply Ext.alloc_r | apply Ext.drew_r | apply Ext.drewN_r | refine Ext.trans ?_ ‹Ext _ _›))
  have szl : w2.heap.size ≤ wl.heap.size := xl.size
  clear hw u v HP1 HP2
  obtain ⟨bl, hbl⟩ : ∃ b, b = w2.heap.size := ⟨_, rfl⟩
  rw [← hbl] at HG
  rw [← hbl]
  clear hbl
  replace bxi := bxi.ext xl
  replace bxr := bxr.ext xl
  have ki_0 := bxi.c 0 (.int .i64 g1) rfl
  have ki_1 := bxi.c 1 (.slice A1 L1 c1) rfl
  have ki_2 := bxi.c 2 (.int .i64 h1) rfl
  have ki_3 := bxi.c 3 (.slice B1 M1 d1) rfl
  have ki_4 := bxi.c 4 (.int .i64 g2) rfl
  have ki_5 := bxi.c 5 (.slice A2 L2 c2) rfl
  have ki_6 := bxi.c 6 (.int .i64 h2) rfl
  have ki_7 := bxi.c 7 (.slice B2 M2 d2) rfl
  have kr_0 := bxr.c 0 (.int .i64 0) rfl
  have kr_1 := bxr.c 1 (.slice none 0 0) rfl
  have kr_2 := bxr.c 2 (.int .i64 0) rfl
  have kr_3 := bxr.c 3 (.slice none 0 0) rfl
  have kr_4 := bxr.c 4 (.int .i64 0) rfl
  have kr_5 := bxr.c 5 (.slice none 0 0) rfl
  have kr_6 := bxr.c 6 (.int .i64 0) rfl
  have kr_7 := bxr.c 7 (.slice none 0 0) rfl
  go_wp2_with fail
  go_quiet (fail)
  clear ki_0 ki_1 ki_2 ki_3 ki_4 ki_5 ki_6 ki_7 kr_0 kr_1 kr_2 kr_3 kr_4 kr_5 kr_6 kr_7
  obtain ⟨wq, hwq⟩ : ∃ z : World, z = wl.drewN nq := ⟨_, rfl⟩
  rw [← hwq]
  have xq : Ext wl wq := by rw [hwq]; exact ((Qt.refl _).drewN nq).ext
  clear hwq
  have szq : wl.heap.size ≤ wq.heap.size := xq.size
  replace bxi := bxi.ext xq
  replace bxr := bxr.ext xq
  have ki_0 := bxi.c 0 (.int .i64 g1) rfl
  have ki_1 := bxi.c 1 (.slice A1 L1 c1) rfl
  have ki_2 := bxi.c 2 (.int .i64 h1) rfl
  have ki_3 := bxi.c 3 (.slice B1 M1 d1) rfl
  have ki_4 := bxi.c 4 (.int .i64 g2) rfl
  have ki_5 := bxi.c 5 (.slice A2 L2 c2) rfl
  have ki_6 := bxi.c 6 (.int .i64 h2) rfl
  have ki_7 := bxi.c 7 (.slice B2 M2 d2) rfl
  have kr_0 := bxr.c 0 (.int .i64 0) rfl
  have kr_1 := bxr.c 1 (.slice none 0 0) rfl
  have kr_2 := bxr.c 2 (.int .i64 0) rfl
  have kr_3 := bxr.c 3 (.slice none 0 0) rfl
  have kr_4 := bxr.c 4 (.int .i64 0) rfl
  have kr_5 := bxr.c 5 (.slice none 0 0) rfl
  have kr_6 := bxr.c 6 (.int .i64 0) rfl
  have kr_7 := bxr.c 7 (.slice none 0 0) rfl
  go_wp2_with fail
  clear ki_0 ki_1 ki_2 ki_3 ki_4 ki_5 ki_6 ki_7 kr_0 kr_1 kr_2 kr_3 kr_4 kr_5 kr_6 kr_7
  refine (jhull_l (HG.out.ext (by with_reducible repeat' first | exact Ext.refl _ | assumption | apply Ext.alloc_r | apply Ext.drew_r | apply Ext.drewN_r | refine Ext.trans ?_ ‹Ext _ _›)).cql rfl (by show 1 ≤ 2; omega) (by show 2 ≤ 100; omega) hD2).mono ?_
  rintro e w3 ⟨gsa, Asa, csa, Lsa, hsa, Bsa, dsa, Msa, gsb, Asb, csb, Lsb, hsb, Bsb, dsb, Msb, rfl, sa, sb, x3⟩
  have szw3 : wq.heap.size ≤ w3.heap.size := x3.size
  replace bxi := bxi.ext x3
  replace bxr := bxr.ext x3
  have HS1 : Hid (QR w3 gsa Asa csa Lsa hsa Bsa dsa Msa D (plo q1 q2 k)) := by show _; rw [HE.out.1]; exact sa
  have HS2 : Hid (QR w3 gsb Asb csb Lsb hsb Bsb dsb Msb D (phi q1 q2 k)) := by show _; rw [HE.out.2]; exact sb
  clear sa sb HE
  have ki_0 := bxi.c 0 (.int .i64 g1) rfl
  have ki_1 := bxi.c 1 (.slice A1 L1 c1) rfl
  have ki_2 := bxi.c 2 (.int .i64 h1) rfl
  have ki_3 := bxi.c 3 (.slice B1 M1 d1) rfl
  have ki_4 := bxi.c 4 (.int .i64 g2) rfl
  have ki_5 := bxi.c 5 (.slice A2 L2 c2) rfl
  have ki_6 := bxi.c 6 (.int .i64 h2) rfl
  have ki_7 := bxi.c 7 (.slice B2 M2 d2) rfl
  have kr_0 := bxr.c 0 (.int .i64 0) rfl
  have fr_0 := bxr.f 0
  have kr_1 := bxr.c 1 (.slice none 0 0) rfl
  have fr_1 := bxr.f 1
  have kr_2 := bxr.c 2 (.int .i64 0) rfl
  have fr_2 := bxr.f 2
  have kr_3 := bxr.c 3 (.slice none 0 0) rfl
  have fr_3 := bxr.f 3
  have kr_4 := bxr.c 4 (.int .i64 0) rfl
  have fr_4 := bxr.f 4
  have kr_5 := bxr.c 5 (.slice none 0 0) rfl
  have fr_5 := bxr.f 5
  have kr_6 := bxr.c 6 (.int .i64 0) rfl
  have fr_6 := bxr.f 6
  have kr_7 := bxr.c 7 (.slice none 0 0) rfl
  have fr_7 := bxr.f 7
  go_wp2_with fail
  clear ki_0 ki_1 ki_2 ki_3 ki_4 ki_5 ki_6 ki_7 kr_0 fr_0 kr_1 fr_1 kr_2 fr_2 kr_3 fr_3 kr_4 fr_4 kr_5 fr_5 kr_6 fr_6 kr_7 fr_7
  have sa := HS1.out
  have sb := HS2.out
  clear HS1 HS2
  obtain ⟨w4, hw⟩ : ∃ z : World, z = ((((((((w3.setCell ⟨w.heap.size + 1, 0, none⟩ (.int .i64 gsa)).setCell ⟨w.heap.size + 1, 1, none⟩ (.slice Asa Lsa csa)).setCell ⟨w.heap.size + 1, 2, none⟩ (.int .i64 hsa)).setCell ⟨w.heap.size + 1, 3, none⟩ (.slice Bsa Msa dsa)).setCell ⟨w.heap.size + 1, 4, none⟩ (.int .i64 gsb)).setCell ⟨w.heap.size + 1, 5, none⟩ (.slice Asb Lsb csb)).setCell ⟨w.heap.size + 1, 6, none⟩ (.int .i64 hsb)).setCell ⟨w.heap.size + 1, 7, none⟩ (.slice Bsb Msb dsb)) := ⟨_, rfl⟩
  rw [← hw]
  have kw4 : Kept w3 w4 := by rw [hw]; exact (Kept.set_ (Kept.set_ (Kept.set_ (Kept.set_ (Kept.set_ (Kept.set_ (Kept.set_ (Kept.set_ (Kept.refl _) bxr.isBox plain_J) (IsBox.set_ bxr.isBox) plain_J) (IsBox.set_ (IsBox.set_ bxr.isBox)) plain_J) (IsBox.set_ (IsBox.set_ (IsBox.set_ bxr.isBox))) plain_J) (IsBox.set_ (IsBox.set_ (IsBox.set_ (IsBox.set_ bxr.isBox)))) plain_J) (IsBox.set_ (IsBox.set_ (IsBox.set_ (IsBox.set_ (IsBox.set_ bxr.isBox))))) plain_J) (IsBox.set_ (IsBox.set_ (IsBox.set_ (IsBox.set_ (IsBox.set_ (IsBox.set_ bxr.isBox)))))) plain_J) (IsBox.set_ (IsBox.set_ (IsBox.set_ (IsBox.set_ (IsBox.set_ (IsBox.set_ (IsBox.set_ bxr.isBox))))))) plain_J)
  have nbi : BK w4 (w.heap.size) 38 #[.int .i64 g1, .slice A1 L1 c1, .int .i64 h1, .slice B1 M1 d1, .int .i64 g2, .slice A2 L2 c2, .int .i64 h2, .slice B2 M2 d2] := by rw [hw]; exact (BK.far (BK.far (BK.far (BK.far (BK.far (BK.far (BK.far (BK.far bxi (show w.heap.size ≠ w.heap.size + 1 by omega) 0 _) (show w.heap.size ≠ w.heap.size + 1 by omega) 1 _) (show w.heap.size ≠ w.heap.size + 1 by omega) 2 _) (show w.heap.size ≠ w.heap.size + 1 by omega) 3 _) (show w.heap.size ≠ w.heap.size + 1 by omega) 4 _) (show w.heap.size ≠ w.heap.size + 1 by omega) 5 _) (show w.heap.size ≠ w.heap.size + 1 by omega) 6 _) (show w.heap.size ≠ w.heap.size + 1 by omega) 7 _)
  have nbr : BK w4 (w.heap.size + 1) 38 #[.int .i64 gsa, .slice Asa Lsa csa, .int .i64 hsa, .slice Bsa Msa dsa, .int .i64 gsb, .slice Asb Lsb csb, .int .i64 hsb, .slice Bsb Msb dsb] := by rw [hw]; exact (BK.set (i := 7) (u := .slice Bsb Msb dsb) (vs' := #[.int .i64 gsa, .slice Asa Lsa csa, .int .i64 hsa, .slice Bsa Msa dsa, .int .i64 gsb, .slice Asb Lsb csb, .int .i64 hsb, .slice Bsb Msb dsb]) (BK.set (i := 6) (u := .int .i64 hsb) (vs' := #[.int .i64 gsa, .slice Asa Lsa csa, .int .i64 hsa, .slice Bsa Msa dsa, .int .i64 gsb, .slice Asb Lsb csb, .int .i64 hsb, .slice none 0 0]) (BK.set (i := 5) (u := .slice Asb Lsb csb) (vs' := #[.int .i64 gsa, .slice Asa Lsa csa, .int .i64 hsa, .slice Bsa Msa dsa, .int .i64 gsb, .slice Asb Lsb csb, .int .i64 0, .slice none 0 0]) (BK.set (i := 4) (u := .int .i64 gsb) (vs' := #[.int .i64 gsa, .slice Asa Lsa csa, .int .i64 hsa, .slice Bsa Msa dsa, .int .i64 gsb, .slice none 0 0, .int .i64 0, .slice none 0 0]) (BK.set (i := 3) (u := .slice Bsa Msa dsa) (vs' := #[.int .i64 gsa, .slice Asa Lsa csa, .int .i64 hsa, .slice Bsa Msa dsa, .int .i64 0, .slice none 0 0, .int .i64 0, .slice none 0 0]) (BK.set (i := 2) (u := .int .i64 hsa) (vs' := #[.int .i64 gsa, .slice Asa Lsa csa, .int .i64 hsa, .slice none 0 0, .int .i64 0, .slice none 0 0, .int .i64 0, .slice none 0 0]) (BK.set (i := 1) (u := .slice Asa Lsa csa) (vs' := #[.int .i64 gsa, .slice Asa Lsa csa, .int .i64 0, .slice none 0 0, .int .i64 0, .slice none 0 0, .int .i64 0, .slice none 0 0]) (BK.set (i := 0) (u := .int .i64 gsa) (vs' := #[.int .i64 gsa, .slice none 0 0, .int .i64 0, .slice none 0 0, .int .i64 0, .slice none 0 0, .int .i64 0, .slice none 0 0]) bxr rfl) rfl) rfl) rfl) rfl) rfl) rfl) rfl)
  have x4 : Ext w w4 := by rw [hw]; have hxp : Ext w w3 := (by with_reducible repeat' first | exact Ext.refl _ | assumption | apply Ext.alloc_r | apply Ext.drew_r | apply Ext.drewN_r | refine Ext.trans ?_ ‹Ext _ _›); exact (Ext.set_ (Ext.set_ (Ext.set_ (Ext.set_ (Ext.set_ (Ext.set_ (Ext.set_ (Ext.set_ hxp (show _ ≤ w.heap.size + 1 by omega)) (show _ ≤ w.heap.size + 1 by omega)) (show _ ≤ w.heap.size + 1 by omega)) (show _ ≤ w.heap.size + 1 by omega)) (show _ ≤ w.heap.size + 1 by omega)) (show _ ≤ w.heap.size + 1 by omega)) (show _ ≤ w.heap.size + 1 by omega)) (show _ ≤ w.heap.size + 1 by omega))
  clear bxi
  clear bxr
  have bxi := nbi
  clear nbi
  have bxr := nbr
  clear nbr
  have szw4 : w4.heap.size = w3.heap.size := by rw [hw]; simp
  replace sa := (sa.ext (by with_reducible repeat' first | exact Ext.refl _ | assumption | apply Ext.alloc_r | apply Ext.drew_r | apply Ext.drewN_r | refine Ext.trans ?_ ‹Ext _ _›)).kept kw4
  replace sb := (sb.ext (by with_reducible repeat' first | exact Ext.refl _ | assumption | apply Ext.alloc_r | apply Ext.drew_r | apply Ext.drewN_r | refine Ext.trans ?_ ‹Ext _ _›)).kept kw4
  clear hw kw4
  have HU := Lib.hid sa
  have HV := Lib.hid sb
  clear sa sb
  have kr_0 := bxr.c 0 (.int .i64 gsa) rfl
  have kr_1 := bxr.c 1 (.slice Asa Lsa csa) rfl
  have kr_2 := bxr.c 2 (.int .i64 hsa) rfl
  have kr_3 := bxr.c 3 (.slice Bsa Msa dsa) rfl
  have kr_4 := bxr.c 4 (.int .i64 gsb) rfl
  have kr_5 := bxr.c 5 (.slice Asb Lsb csb) rfl
  have kr_6 := bxr.c 6 (.int .i64 hsb) rfl
  have kr_7 := bxr.c 7 (.slice Bsb Msb dsb) rfl
  refine bodyPost_ret (v := Value.agg #[Value.int IntKind.i64 gsa, Value.slice Asa Lsa csa, Value.int IntKind.i64 hsa, Value.slice Bsa Msa dsa, Value.int IntKind.i64 gsb, Value.slice Asb Lsb csb, Value.int IntKind.i64 hsb, Value.slice Bsb Msb dsb]) (by simp [results, Tryz.results45, go_sem, kr_0, kr_1, kr_2, kr_3, kr_4, kr_5, kr_6, kr_7]) rfl ?_
  exact ⟨_, _, _, _, _, _, _, _, _, _, _, _, _, _, _, _, rfl, HU.out, HV.out, x4⟩
set_option maxHeartbeats 4000000 in
set_option maxRecDepth 100000 in
theorem jpow_no {w : World} {K k : Nat} {g1 h1 g2 h2 : Int} {A1 B1 A2 B2 : Option Addr} {c1 d1 L1 M1 c2 d2 L2 M2 : Nat} {q1 q2 : Rat} (h_1 : QR w g1 A1 c1 L1 h1 B1 d1 M1 K q1) (h_2 : QR w g2 A2 c2 L2 h2 B2 d2 M2 K q2) (hle : q1 ≤ q2) (hK1 : 1 ≤ K) (hk : k ≤ 1000) (hK : K ≤ 1000) (hk0 : 0 < k) (hz : ¬ (q1 ≤ ((0 : Int) : Rat) ∧ ((0 : Int) : Rat) ≤ q2)) :
    Calls Tryz.prog 45 #[Value.agg #[Value.int IntKind.i64 g1, Value.slice A1 L1 c1, Value.int IntKind.i64 h1, Value.slice B1 M1 d1, Value.int IntKind.i64 g2, Value.slice A2 L2 c2, Value.int IntKind.i64 h2, Value.slice B2 M2 d2], .int .i64 k] w (RetJ w (1 + k * K) (plo q1 q2 k) (phi q1 q2 k)) := by
  have hd1 : decide ((k : Int) > 0) = true := decide_eq_true (by omega)
  have hd2 : decide (0 < k) = true := decide_eq_true (by omega)
  have HE := Lib.hid (plo_out hle (n := k) (fun _ => hz))
  have HB : Hid (decide (q1 ≤ ((0 : Int) : Rat) ∧ ((0 : Int) : Rat) ≤ q2) = false) := decide_eq_false hz
  clear hz hk0
  obtain ⟨D, hD⟩ : ∃ D, D = 1 + k * K := ⟨_, rfl⟩
  have hD1 : 1 ≤ D := by omega
  have hD2 : D ≤ 100000000 := by
    have h5 : k * K ≤ 1000 * 1000 := Nat.mul_le_mul hk hK
    omega
  have HP1 : Hid (∀ w', Ext w w' → Calls Tryz.prog 73 #[Value.agg #[Value.int IntKind.i64 g1, Value.slice A1 L1 c1, Value.int IntKind.i64 h1, Value.slice B1 M1 d1], .int .i64 k] w' (RetQ w' D (q1 ^ k))) := fun w' hx => by rw [hD]; exact jpower_r (h_1.ext hx) hK1 hk hK
  have HP2 : Hid (∀ w', Ext w w' → Calls Tryz.prog 73 #[Value.agg #[Value.int IntKind.i64 g2, Value.slice A2 L2 c2, Value.int IntKind.i64 h2, Value.slice B2 M2 d2], .int .i64 k] w' (RetQ w' D (q2 ^ k))) := fun w' hx => by rw [hD]; exact jpower_r (h_2.ext hx) hK1 hk hK
  rw [← hD]
  clear hD hle
  go_enter Tryz.func45, Tryz.ntmps45
  go_wp2_with fail
  obtain ⟨w0, hw0⟩ : ∃ z : World, z = ((w.alloc (.cells #[.int .i64 g1, .slice A1 L1 c1, .int .i64 h1, .slice B1 M1 d1, .int .i64 g2, .slice A2 L2 c2, .int .i64 h2, .slice B2 M2 d2] 38)).alloc (.cells #[.int .i64 0, .slice none 0 0, .int .i64 0, .slice none 0 0, .int .i64 0, .slice none 0 0, .int .i64 0, .slice none 0 0] 38)) := ⟨_, rfl⟩
  rw [← hw0]
  have bxi : BK w0 (w.heap.size) 38 #[.int .i64 g1, .slice A1 L1 c1, .int .i64 h1, .slice B1 M1 d1, .int .i64 g2, .slice A2 L2 c2, .int .i64 h2, .slice B2 M2 d2] := by rw [hw0]; have h5 := (BK.ext (BK.new w #[.int .i64 g1, .slice A1 L1 c1, .int .i64 h1, .slice B1 M1 d1, .int .i64 g2, .slice A2 L2 c2, .int .i64 h2, .slice B2 M2 d2] 38) (Ext.alloc _ (.cells #[.int .i64 0, .slice none 0 0, .int .i64 0, .slice none 0 0, .int .i64 0, .slice none 0 0, .int .i64 0, .slice none 0 0] 38))); simpa only [World.size_alloc] using h5
  have bxr : BK w0 (w.heap.size + 1) 38 #[.int .i64 0, .slice none 0 0, .int .i64 0, .slice none 0 0, .int .i64 0, .slice none 0 0, .int .i64 0, .slice none 0 0] := by rw [hw0]; have h5 := (BK.new (w.alloc (.cells #[.int .i64 g1, .slice A1 L1 c1, .int .i64 h1, .slice B1 M1 d1, .int .i64 g2, .slice A2 L2 c2, .int .i64 h2, .slice B2 M2 d2] 38)) #[.int .i64 0, .slice none 0 0, .int .i64 0, .slice none 0 0, .int .i64 0, .slice none 0 0, .int .i64 0, .slice none 0 0] 38); simpa only [World.size_alloc] using h5
  have hszw0 : w0.heap.size = w.heap.size + 1 + 1 := by rw [hw0]; simp only [World.size_alloc]
  have xw0 : Ext w w0 := by rw [hw0]; exact ((Ext.alloc _ _).trans (Ext.alloc _ _))
  clear hw0
  have bxr0 := bxr
  have ki_0 := bxi.c 0 (.int .i64 g1) rfl
  have ki_1 := bxi.c 1 (.slice A1 L1 c1) rfl
  have ki_2 := bxi.c 2 (.int .i64 h1) rfl
  have ki_3 := bxi.c 3 (.slice B1 M1 d1) rfl
  have ki_4 := bxi.c 4 (.int .i64 g2) rfl
  have ki_5 := bxi.c 5 (.slice A2 L2 c2) rfl
  have ki_6 := bxi.c 6 (.int .i64 h2) rfl
  have ki_7 := bxi.c 7 (.slice B2 M2 d2) rfl
  have kr_0 := bxr.c 0 (.int .i64 0) rfl
  have kr_1 := bxr.c 1 (.slice none 0 0) rfl
  have kr_2 := bxr.c 2 (.int .i64 0) rfl
  have kr_3 := bxr.c 3 (.slice none 0 0) rfl
  have kr_4 := bxr.c 4 (.int .i64 0) rfl
  have kr_5 := bxr.c 5 (.slice none 0 0) rfl
  have kr_6 := bxr.c 6 (.int .i64 0) rfl
  have kr_7 := bxr.c 7 (.slice none 0 0) rfl
  go_wp2_with fail
  have HK : Hid (∀ w', Ext w0 w' → (w'.cell? ⟨w.heap.size, 0, none⟩ = some (.int .i64 g1) ∧ w'.cell? ⟨w.heap.size, 1, none⟩ = some (.slice A1 L1 c1) ∧ w'.cell? ⟨w.heap.size, 2, none⟩ = some (.int .i64 h1) ∧ w'.cell? ⟨w.heap.size, 3, none⟩ = some (.slice B1 M1 d1) ∧ w'.cell? ⟨w.heap.size, 4, none⟩ = some (.int .i64 g2) ∧ w'.cell? ⟨w.heap.size, 5, none⟩ = some (.slice A2 L2 c2) ∧ w'.cell? ⟨w.heap.size, 6, none⟩ = some (.int .i64 h2) ∧ w'.cell? ⟨w.heap.size, 7, none⟩ = some (.slice B2 M2 d2))) := fun w' hk => ⟨hk.cell ki_0, hk.cell ki_1, hk.cell ki_2, hk.cell ki_3, hk.cell ki_4, hk.cell ki_5, hk.cell ki_6, hk.cell ki_7⟩
  go_region_held3 (fun w' => w'.cell? ⟨w.heap.size, 0, none⟩ = some (.int .i64 g1) ∧ w'.cell? ⟨w.heap.size, 1, none⟩ = some (.slice A1 L1 c1) ∧ w'.cell? ⟨w.heap.size, 2, none⟩ = some (.int .i64 h1) ∧ w'.cell? ⟨w.heap.size, 3, none⟩ = some (.slice B1 M1 d1) ∧ w'.cell? ⟨w.heap.size, 4, none⟩ = some (.int .i64 g2) ∧ w'.cell? ⟨w.heap.size, 5, none⟩ = some (.slice A2 L2 c2) ∧ w'.cell? ⟨w.heap.size, 6, none⟩ = some (.int .i64 h2) ∧ w'.cell? ⟨w.heap.size, 7, none⟩ = some (.slice B2 M2 d2))
    ((with_reducible refine HK.out _ ?_; (with_reducible repeat' first | exact Ext.refl _ | assumption | apply Ext.alloc_r | apply Ext.drew_r | apply Ext.drewN_r | refine Ext.trans ?_ ‹Ext _ _›)))
    (first
      | (go_at_call_of 73 (#[Value.agg #[Value.int IntKind.i64 g2, Value.slice A2 L2 c2, Value.int IntKind.i64 h2, Value.slice B2 M2 d2], Value.int IntKind.i64 (k : Int)]); have hgd := u; clear hgd; refine (HP2.out _ (by with_reducible repeat' first | exact Ext.refl _ | assumption | apply Ext.alloc_r | apply Ext.drew_r | apply Ext.drewN_r | refine Ext.trans ?_ ‹Ext _ _›)).mono ?_; rintro e w2 ⟨gv, Av, cv, Lv, hv, Bv, dv, Mv, rfl, v, x2⟩)
      | (go_at_call_of 73 (#[Value.agg #[Value.int IntKind.i64 g1, Value.slice A1 L1 c1, Value.int IntKind.i64 h1, Value.slice B1 M1 d1], Value.int IntKind.i64 (k : Int)]); refine (HP1.out _ (by with_reducible repeat' first | exact Ext.refl _ | assumption | apply Ext.alloc_r | apply Ext.drew_r | apply Ext.drewN_r | refine Ext.trans ?_ ‹Ext _ _›)).mono ?_; rintro e w1 ⟨gu, Au, cu, Lu, hu, Bu, du, Mu, rfl, u, x1⟩))
  clear ki_0 ki_1 ki_2 ki_3 ki_4 ki_5 ki_6 ki_7 kr_0 kr_1 kr_2 kr_3 kr_4 kr_5 kr_6 kr_7
  clear HK
  have szw1 : w0.heap.size ≤ w1.heap.size := (show Ext w0 w1 from (by with_reducible repeat' first | exact Ext.refl _ | assumption | apply Ext.alloc_r | apply Ext.drew_r | apply Ext.drewN_r | refine Ext.trans ?_ ‹Ext _ _›)).size
  have xhw2 : Ext w0 w2 := (by with_reducible repeat' first | exact Ext.refl _ | assumption | apply Ext.alloc_r | apply Ext.drew_r | apply Ext.drewN_r | refine Ext.trans ?_ ‹Ext _ _›)
  have szw2 : w0.heap.size ≤ w2.heap.size := xhw2.size
  replace bxi := bxi.ext xhw2
  replace bxr := bxr.ext xhw2
  obtain ⟨wl, hw⟩ : ∃ z : World, z = w2.alloc (.cells #[.int .i64 gu, .slice Au Lu cu, .int .i64 hu, .slice Bu Mu du, .int .i64 gv, .slice Av Lv cv, .int .i64 hv, .slice Bv Mv dv] 36) := ⟨_, rfl⟩
  rw [← hw]
  have xl : Ext w2 wl := by rw [hw]; exact Ext.alloc _ _
  have HG : Hid (GQ wl w0.heap.size D [q1 ^ k, q2 ^ k] (some ⟨w2.heap.size, 0, none⟩) 2) := by rw [hw]; exact GQ.two (by omega) (u.ext (by with_reducible repeat' first | exact Ext.refl _ | assumption | apply Ext.alloc_r | apply Ext.drew_r | apply Ext.drewN_r | refine Ext.trans ?_ ‹Ext _ _›)) (v.ext (by with_reducible repeat' first | exact Ext.refl _ | assumption | apply Ext.alloc_r | apply Ext.drew_r | apply Ext.drewN_r | refine Ext.trans ?_ ‹Ext _ _›))
  have szl : w2.heap.size ≤ wl.heap.size := xl.size
  clear hw u v HP1 HP2
  obtain ⟨bl, hbl⟩ : ∃ b, b = w2.heap.size := ⟨_, rfl⟩
  rw [← hbl] at HG
  rw [← hbl]
  clear hbl
  replace bxi := bxi.ext xl
  replace bxr := bxr.ext xl
  have ki_0 := bxi.c 0 (.int .i64 g1) rfl
  have ki_1 := bxi.c 1 (.slice A1 L1 c1) rfl
  have ki_2 := bxi.c 2 (.int .i64 h1) rfl
  have ki_3 := bxi.c 3 (.slice B1 M1 d1) rfl
  have ki_4 := bxi.c 4 (.int .i64 g2) rfl
  have ki_5 := bxi.c 5 (.slice A2 L2 c2) rfl
  have ki_6 := bxi.c 6 (.int .i64 h2) rfl
  have ki_7 := bxi.c 7 (.slice B2 M2 d2) rfl
  have kr_0 := bxr.c 0 (.int .i64 0) rfl
  have kr_1 := bxr.c 1 (.slice none 0 0) rfl
  have kr_2 := bxr.c 2 (.int .i64 0) rfl
  have kr_3 := bxr.c 3 (.slice none 0 0) rfl
  have kr_4 := bxr.c 4 (.int .i64 0) rfl
  have kr_5 := bxr.c 5 (.slice none 0 0) rfl
  have kr_6 := bxr.c 6 (.int .i64 0) rfl
  have kr_7 := bxr.c 7 (.slice none 0 0) rfl
  go_wp2_with fail
  have HK : Hid (∀ w', Ext wl w' → (w'.cell? ⟨w.heap.size, 0, none⟩ = some (.int .i64 g1) ∧ w'.cell? ⟨w.heap.size, 1, none⟩ = some (.slice A1 L1 c1) ∧ w'.cell? ⟨w.heap.size, 2, none⟩ = some (.int .i64 h1) ∧ w'.cell? ⟨w.heap.size, 3, none⟩ = some (.slice B1 M1 d1) ∧ w'.cell? ⟨w.heap.size, 4, none⟩ = some (.int .i64 g2) ∧ w'.cell? ⟨w.heap.size, 5, none⟩ = some (.slice A2 L2 c2) ∧ w'.cell? ⟨w.heap.size, 6, none⟩ = some (.int .i64 h2) ∧ w'.cell? ⟨w.heap.size, 7, none⟩ = some (.slice B2 M2 d2))) := fun w' hk => ⟨hk.cell ki_0, hk.cell ki_1, hk.cell ki_2, hk.cell ki_3, hk.cell ki_4, hk.cell ki_5, hk.cell ki_6, hk.cell ki_7⟩
  go_region_held3 (fun w' => w'.cell? ⟨w.heap.size, 0, none⟩ = some (.int .i64 g1) ∧ w'.cell? ⟨w.heap.size, 1, none⟩ = some (.slice A1 L1 c1) ∧ w'.cell? ⟨w.heap.size, 2, none⟩ = some (.int .i64 h1) ∧ w'.cell? ⟨w.heap.size, 3, none⟩ = some (.slice B1 M1 d1) ∧ w'.cell? ⟨w.heap.size, 4, none⟩ = some (.int .i64 g2) ∧ w'.cell? ⟨w.heap.size, 5, none⟩ = some (.slice A2 L2 c2) ∧ w'.cell? ⟨w.heap.size, 6, none⟩ = some (.int .i64 h2) ∧ w'.cell? ⟨w.heap.size, 7, none⟩ = some (.slice B2 M2 d2))
    ((with_reducible refine HK.out _ ?_; (with_reducible repeat' first | exact Ext.refl _ | assumption | apply Ext.alloc_r | apply Ext.drew_r | apply Ext.drewN_r | refine Ext.trans ?_ ‹Ext _ _›)))
    (first
      | (go_at_call 21; have hgd := z; clear hgd; refine (jcontains_is (h_1.ext (by with_reducible repeat' first | exact Ext.refl _ | assumption | apply Ext.alloc_r | apply Ext.drew_r | apply Ext.drewN_r | refine Ext.trans ?_ ‹Ext _ _›)) (h_2.ext (by with_reducible repeat' first | exact Ext.refl _ | assumption | apply Ext.alloc_r | apply Ext.drew_r | apply Ext.drewN_r | refine Ext.trans ?_ ‹Ext _ _›)) (z.ext (by with_reducible repeat' first | exact Ext.refl _ | assumption | apply Ext.alloc_r | apply Ext.drew_r | apply Ext.drewN_r | refine Ext.trans ?_ ‹Ext _ _›)) (by omega) HB.out).mono ?_; rintro e w4 ⟨rfl, x4⟩)
      | (go_at_call 51; refine (jnumber_r (n := 0) (K := K) (Nat.zero_le _) hK1 (by omega)).mono ?_; rintro e w3 ⟨gz, Az, cz, Lz, hz, Bz, dz, Mz, rfl, z, x3⟩))
  clear ki_0 ki_1 ki_2 ki_3 ki_4 ki_5 ki_6 ki_7 kr_0 kr_1 kr_2 kr_3 kr_4 kr_5 kr_6 kr_7
  clear HK
  have szw3 : wl.heap.size ≤ w3.heap.size := (show Ext wl w3 from (by with_reducible repeat' first | exact Ext.refl _ | assumption | apply Ext.alloc_r | apply Ext.drew_r | apply Ext.drewN_r | refine Ext.trans ?_ ‹Ext _ _›)).size
  have xhw4 : Ext wl w4 := (by with_reducible repeat' first | exact Ext.refl _ | assumption | apply Ext.alloc_r | apply Ext.drew_r | apply Ext.drewN_r | refine Ext.trans ?_ ‹Ext _ _›)
  have szw4 : wl.heap.size ≤ w4.heap.size := xhw4.size
  replace bxi := bxi.ext xhw4
  replace bxr := bxr.ext xhw4
  clear z HB
  have ki_0 := bxi.c 0 (.int .i64 g1) rfl
  have ki_1 := bxi.c 1 (.slice A1 L1 c1) rfl
  have ki_2 := bxi.c 2 (.int .i64 h1) rfl
  have ki_3 := bxi.c 3 (.slice B1 M1 d1) rfl
  have ki_4 := bxi.c 4 (.int .i64 g2) rfl
  have ki_5 := bxi.c 5 (.slice A2 L2 c2) rfl
  have ki_6 := bxi.c 6 (.int .i64 h2) rfl
  have ki_7 := bxi.c 7 (.slice B2 M2 d2) rfl
  have kr_0 := bxr.c 0 (.int .i64 0) rfl
  have kr_1 := bxr.c 1 (.slice none 0 0) rfl
  have kr_2 := bxr.c 2 (.int .i64 0) rfl
  have kr_3 := bxr.c 3 (.slice none 0 0) rfl
  have kr_4 := bxr.c 4 (.int .i64 0) rfl
  have kr_5 := bxr.c 5 (.slice none 0 0) rfl
  have kr_6 := bxr.c 6 (.int .i64 0) rfl
  have kr_7 := bxr.c 7 (.slice none 0 0) rfl
  go_wp2_with fail
  clear ki_0 ki_1 ki_2 ki_3 ki_4 ki_5 ki_6 ki_7 kr_0 kr_1 kr_2 kr_3 kr_4 kr_5 kr_6 kr_7
  refine (jhull_l (HG.out.ext (by with_reducible repeat' first | exact Ext.refl _ | assumption | apply Ext.alloc_r | apply Ext.drew_r | apply Ext.drewN_r | refine Ext.trans ?_ ‹Ext _ _›)).cql rfl (by show 1 ≤ 2; omega) (by show 2 ≤ 100; omega) hD2).mono ?_
  rintro e w5 ⟨gsa, Asa, csa, Lsa, hsa, Bsa, dsa, Msa, gsb, Asb, csb, Lsb, hsb, Bsb, dsb, Msb, rfl, sa, sb, x5⟩
  have szw5 : w4.heap.size ≤ w5.heap.size := x5.size
  replace bxi := bxi.ext x5
  replace bxr := bxr.ext x5
  have HS1 : Hid (QR w5 gsa Asa csa Lsa hsa Bsa dsa Msa D (plo q1 q2 k)) := by show _; rw [HE.out.1]; exact sa
  have HS2 : Hid (QR w5 gsb Asb csb Lsb hsb Bsb dsb Msb D (phi q1 q2 k)) := by show _; rw [HE.out.2]; exact sb
  clear sa sb HE
  have ki_0 := bxi.c 0 (.int .i64 g1) rfl
  have ki_1 := bxi.c 1 (.slice A1 L1 c1) rfl
  have ki_2 := bxi.c 2 (.int .i64 h1) rfl
  have ki_3 := bxi.c 3 (.slice B1 M1 d1) rfl
  have ki_4 := bxi.c 4 (.int .i64 g2) rfl
  have ki_5 := bxi.c 5 (.slice A2 L2 c2) rfl
  have ki_6 := bxi.c 6 (.int .i64 h2) rfl
  have ki_7 := bxi.c 7 (.slice B2 M2 d2) rfl
  have kr_0 := bxr.c 0 (.int .i64 0) rfl
  have fr_0 := bxr.f 0
  have kr_1 := bxr.c 1 (.slice none 0 0) rfl
  have fr_1 := bxr.f 1
  have kr_2 := bxr.c 2 (.int .i64 0) rfl
  have fr_2 := bxr.f 2
  have kr_3 := bxr.c 3 (.slice none 0 0) rfl
  have fr_3 := bxr.f 3
  have kr_4 := bxr.c 4 (.int .i64 0) rfl
  have fr_4 := bxr.f 4
  have kr_5 := bxr.c 5 (.slice none 0 0) rfl
  have fr_5 := bxr.f 5
  have kr_6 := bxr.c 6 (.int .i64 0) rfl
  have fr_6 := bxr.f 6
  have kr_7 := bxr.c 7 (.slice none 0 0) rfl
  have fr_7 := bxr.f 7
  go_wp2_with fail
  clear ki_0 ki_1 ki_2 ki_3 ki_4 ki_5 ki_6 ki_7 kr_0 fr_0 kr_1 fr_1 kr_2 fr_2 kr_3 fr_3 kr_4 fr_4 kr_5 fr_5 kr_6 fr_6 kr_7 fr_7
  have sa := HS1.out
  have sb := HS2.out
  clear HS1 HS2
  obtain ⟨w6, hw⟩ : ∃ z : World, z = ((((((((w5.setCell ⟨w.heap.size + 1, 0, none⟩ (.int .i64 gsa)).setCell ⟨w.heap.size + 1, 1, none⟩ (.slice Asa Lsa csa)).setCell ⟨w.heap.size + 1, 2, none⟩ (.int .i64 hsa)).setCell ⟨w.heap.size + 1, 3, none⟩ (.slice Bsa Msa dsa)).setCell ⟨w.heap.size + 1, 4, none⟩ (.int .i64 gsb)).setCell ⟨w.heap.size + 1, 5, none⟩ (.slice Asb Lsb csb)).setCell ⟨w.heap.size + 1, 6, none⟩ (.int .i64 hsb)).setCell ⟨w.heap.size + 1, 7, none⟩ (.slice Bsb Msb dsb)) := ⟨_, rfl⟩
  rw [← hw]
  have kw6 : Kept w5 w6 := by rw [hw]; exact (Kept.set_ (Kept.set_ (Kept.set_ (Kept.set_ (Kept.set_ (Kept.set_ (Kept.set_ (Kept.set_ (Kept.refl _) bxr.isBox plain_J) (IsBox.set_ bxr.isBox) plain_J) (IsBox.set_ (IsBox.set_ bxr.isBox)) plain_J) (IsBox.set_ (IsBox.set_ (IsBox.set_ bxr.isBox))) plain_J) (IsBox.set_ (IsBox.set_ (IsBox.set_ (IsBox.set_ bxr.isBox)))) plain_J) (IsBox.set_ (IsBox.set_ (IsBox.set_ (IsBox.set_ (IsBox.set_ bxr.isBox))))) plain_J) (IsBox.set_ (IsBox.set_ (IsBox.set_ (IsBox.set_ (IsBox.set_ (IsBox.set_ bxr.isBox)))))) plain_J) (IsBox.set_ (IsBox.set_ (IsBox.set_ (IsBox.set_ (IsBox.set_ (IsBox.set_ (IsBox.set_ bxr.isBox))))))) plain_J)
  have nbi : BK w6 (w.heap.size) 38 #[.int .i64 g1, .slice A1 L1 c1, .int .i64 h1, .slice B1 M1 d1, .int .i64 g2, .slice A2 L2 c2, .int .i64 h2, .slice B2 M2 d2] := by rw [hw]; exact (BK.far (BK.far (BK.far (BK.far (BK.far (BK.far (BK.far (BK.far bxi (show w.heap.size ≠ w.heap.size + 1 by omega) 0 _) (show w.heap.size ≠ w.heap.size + 1 by omega) 1 _) (show w.heap.size ≠ w.heap.size + 1 by omega) 2 _) (show w.heap.size ≠ w.heap.size + 1 by omega) 3 _) (show w.heap.size ≠ w.heap.size + 1 by omega) 4 _) (show w.heap.size ≠ w.heap.size + 1 by omega) 5 _) (show w.heap.size ≠ w.heap.size + 1 by omega) 6 _) (show w.heap.size ≠ w.heap.size + 1 by omega) 7 _)
  have nbr : BK w6 (w.heap.size + 1) 38 #[.int .i64 gsa, .slice Asa Lsa csa, .int .i64 hsa, .slice Bsa Msa dsa, .int .i64 gsb, .slice Asb Lsb csb, .int .i64 hsb, .slice Bsb Msb dsb] := by rw [hw]; exact (BK.set (i := 7) (u := .slice Bsb Msb dsb) (vs' := #[.int .i64 gsa, .slice Asa Lsa csa, .int .i64 hsa, .slice Bsa Msa dsa, .int .i64 gsb, .slice Asb Lsb csb, .int .i64 hsb, .slice Bsb Msb dsb]) (BK.set (i := 6) (u := .int .i64 hsb) (vs' := #[.int .i64 gsa, .slice Asa Lsa csa, .int .i64 hsa, .slice Bsa Msa dsa, .int .i64 gsb, .slice Asb Lsb csb, .int .i64 hsb, .slice none 0 0]) (BK.set (i := 5) (u := .slice Asb Lsb csb) (vs' := #[.int .i64 gsa, .slice Asa Lsa csa, .int .i64 hsa, .slice Bsa Msa dsa, .int .i64 gsb, .slice Asb Lsb csb, .int .i64 0, .slice none 0 0]) (BK.set (i := 4) (u := .int .i64 gsb) (vs' := #[.int .i64 gsa, .slice Asa Lsa csa, .int .i64 hsa, .slice Bsa Msa dsa, .int .i64 gsb, .slice none 0 0, .int .i64 0, .slice none 0 0]) (BK.set (i := 3) (u := .slice Bsa Msa dsa) (vs' := #[.int .i64 gsa, .slice Asa Lsa csa, .int .i64 hsa, .slice Bsa Msa dsa, .int .i64 0, .slice none 0 0, .int .i64 0, .slice none 0 0]) (BK.set (i := 2) (u := .int .i64 hsa) (vs' := #[.int .i64 gsa, .slice Asa Lsa csa, .int .i64 hsa, .slice none 0 0, .int .i64 0, .slice none 0 0, .int .i64 0, .slice none 0 0]) (BK.set (i := 1) (u := .slice Asa Lsa csa) (vs' := #[.int .i64 gsa, .slice Asa Lsa csa, .int .i64 0, .slice none 0 0, .int .i64 0, .slice none 0 0, .int .i64 0, .slice none 0 0]) (BK.set (i := 0) (u := .int .i64 gsa) (vs' := #[.int .i64 gsa, .slice none 0 0, .int .i64 0, .slice none 0 0, .int .i64 0, .slice none 0 0, .int .i64 0, .slice none 0 0]) bxr rfl) rfl) rfl) rfl) rfl) rfl) rfl) rfl)
  have x6 : Ext w w6 := by rw [hw]; have hxp : Ext w w5 := (by with_reducible repeat' first | exact Ext.refl _ | assumption | apply Ext.alloc_r | apply Ext.drew_r | apply Ext.drewN_r | refine Ext.trans ?_ ‹Ext _ _›); exact (Ext.set_ (Ext.set_ (Ext.set_ (Ext.set_ (Ext.set_ (Ext.set_ (Ext.set_ (Ext.set_ hxp (show _ ≤ w.heap.size + 1 by omega)) (show _ ≤ w.heap.size + 1 by omega)) (show _ ≤ w.heap.size + 1 by omega)) (show _ ≤ w.heap.size + 1 by omega)) (show _ ≤ w.heap.size + 1 by omega)) (show _ ≤ w.heap.size + 1 by omega)) (show _ ≤ w.heap.size + 1 by omega)) (show _ ≤ w.heap.size + 1 by omega))
  clear bxi
  clear bxr
  have bxi := nbi
  clear nbi
  have bxr := nbr
  clear nbr
  have szw6 : w6.heap.size = w5.heap.size := by rw [hw]; simp
  replace sa := (sa.ext (by with_reducible repeat' first | exact Ext.refl _ | assumption | apply Ext.alloc_r | apply Ext.drew_r | apply Ext.drewN_r | refine Ext.trans ?_ ‹Ext _ _›)).kept kw6
  replace sb := (sb.ext (by with_reducible repeat' first | exact Ext.refl _ | assumption | apply Ext.alloc_r | apply Ext.drew_r | apply Ext.drewN_r | refine Ext.trans ?_ ‹Ext _ _›)).kept kw6
  clear hw kw6
  have HU := Lib.hid sa
  have HV := Lib.hid sb
  clear sa sb
  have kr_0 := bxr.c 0 (.int .i64 gsa) rfl
  have kr_1 := bxr.c 1 (.slice Asa Lsa csa) rfl
  have kr_2 := bxr.c 2 (.int .i64 hsa) rfl
  have kr_3 := bxr.c 3 (.slice Bsa Msa dsa) rfl
  have kr_4 := bxr.c 4 (.int .i64 gsb) rfl
  have kr_5 := bxr.c 5 (.slice Asb Lsb csb) rfl
  have kr_6 := bxr.c 6 (.int .i64 hsb) rfl
  have kr_7 := bxr.c 7 (.slice Bsb Msb dsb) rfl
  refine bodyPost_ret (v := Value.agg #[Value.int IntKind.i64 gsa, Value.slice Asa Lsa csa, Value.int IntKind.i64 hsa, Value.slice Bsa Msa dsa, Value.int IntKind.i64 gsb, Value.slice Asb Lsb csb, Value.int IntKind.i64 hsb, Value.slice Bsb Msb dsb]) (by simp [results, Tryz.results45, go_sem, kr_0, kr_1, kr_2, kr_3, kr_4, kr_5, kr_6, kr_7]) rfl ?_
  exact ⟨_, _, _, _, _, _, _, _, _, _, _, _, _, _, _, _, rfl, HU.out, HV.out, x6⟩
set_option maxHeartbeats 4000000 in
set_option maxRecDepth 100000 in
theorem jpow_yes {w : World} {K k : Nat} {g1 h1 g2 h2 : Int} {A1 B1 A2 B2 : Option Addr} {c1 d1 L1 M1 c2 d2 L2 M2 : Nat} {q1 q2 : Rat} (h_1 : QR w g1 A1 c1 L1 h1 B1 d1 M1 K q1) (h_2 : QR w g2 A2 c2 L2 h2 B2 d2 M2 K q2) (hK1 : 1 ≤ K) (hk : k ≤ 1000) (hK : K ≤ 1000) (hk0 : 0 < k) (hz : q1 ≤ ((0 : Int) : Rat) ∧ ((0 : Int) : Rat) ≤ q2) :
    Calls Tryz.prog 45 #[Value.agg #[Value.int IntKind.i64 g1, Value.slice A1 L1 c1, Value.int IntKind.i64 h1, Value.slice B1 M1 d1, Value.int IntKind.i64 g2, Value.slice A2 L2 c2, Value.int IntKind.i64 h2, Value.slice B2 M2 d2], .int .i64 k] w (RetJ w (1 + k * K) (plo q1 q2 k) (phi q1 q2 k)) := by
  have hd1 : decide ((k : Int) > 0) = true := decide_eq_true (by omega)
  have hd2 : decide (0 < k) = true := decide_eq_true (by omega)
  have HE := Lib.hid (plo_in hk0 hz.1 hz.2)
  have HB : Hid (decide (q1 ≤ ((0 : Int) : Rat) ∧ ((0 : Int) : Rat) ≤ q2) = true) := decide_eq_true hz
  clear hz hk0
  obtain ⟨D, hD⟩ : ∃ D, D = 1 + k * K := ⟨_, rfl⟩
  have hD1 : 1 ≤ D := by omega
  have hD2 : D ≤ 100000000 := by
    have h5 : k * K ≤ 1000 * 1000 := Nat.mul_le_mul hk hK
    omega
  have HP1 : Hid (∀ w', Ext w w' → Calls Tryz.prog 73 #[Value.agg #[Value.int IntKind.i64 g1, Value.slice A1 L1 c1, Value.int IntKind.i64 h1, Value.slice B1 M1 d1], .int .i64 k] w' (RetQ w' D (q1 ^ k))) := fun w' hx => by rw [hD]; exact jpower_r (h_1.ext hx) hK1 hk hK
  have HP2 : Hid (∀ w', Ext w w' → Calls Tryz.prog 73 #[Value.agg #[Value.int IntKind.i64 g2, Value.slice A2 L2 c2, Value.int IntKind.i64 h2, Value.slice B2 M2 d2], .int .i64 k] w' (RetQ w' D (q2 ^ k))) := fun w' hx => by rw [hD]; exact jpower_r (h_2.ext hx) hK1 hk hK
  rw [← hD]
  clear hD
  go_enter Tryz.func45, Tryz.ntmps45
  go_wp2_with fail
  obtain ⟨w0, hw0⟩ : ∃ z : World, z = ((w.alloc (.cells #[.int .i64 g1, .slice A1 L1 c1, .int .i64 h1, .slice B1 M1 d1, .int .i64 g2, .slice A2 L2 c2, .int .i64 h2, .slice B2 M2 d2] 38)).alloc (.cells #[.int .i64 0, .slice none 0 0, .int .i64 0, .slice none 0 0, .int .i64 0, .slice none 0 0, .int .i64 0, .slice none 0 0] 38)) := ⟨_, rfl⟩
  rw [← hw0]
  have bxi : BK w0 (w.heap.size) 38 #[.int .i64 g1, .slice A1 L1 c1, .int .i64 h1, .slice B1 M1 d1, .int .i64 g2, .slice A2 L2 c2, .int .i64 h2, .slice B2 M2 d2] := by rw [hw0]; have h5 := (BK.ext (BK.new w #[.int .i64 g1, .slice A1 L1 c1, .int .i64 h1, .slice B1 M1 d1, .int .i64 g2, .slice A2 L2 c2, .int .i64 h2, .slice B2 M2 d2] 38) (Ext.alloc _ (.cells #[.int .i64 0, .slice none 0 0, .int .i64 0, .slice none 0 0, .int .i64 0, .slice none 0 0, .int .i64 0, .slice none 0 0] 38))); simpa only [World.size_alloc] using h5
  have bxr : BK w0 (w.heap.size + 1) 38 #[.int .i64 0, .slice none 0 0, .int .i64 0, .slice none 0 0, .int .i64 0, .slice none 0 0, .int .i64 0, .slice none 0 0] := by rw [hw0]; have h5 := (BK.new (w.alloc (.cells #[.int .i64 g1, .slice A1 L1 c1, .int .i64 h1, .slice B1 M1 d1, .int .i64 g2, .slice A2 L2 c2, .int .i64 h2, .slice B2 M2 d2] 38)) #[.int .i64 0, .slice none 0 0, .int .i64 0, .slice none 0 0, .int .i64 0, .slice none 0 0, .int .i64 0, .slice none 0 0] 38); simpa only [World.size_alloc] using h5
  have hszw0 : w0.heap.size = w.heap.size + 1 + 1 := by rw [hw0]; simp only [World.size_alloc]
  have xw0 : Ext w w0 := by rw [hw0]; exact ((Ext.alloc _ _).trans (Ext.alloc _ _))
  clear hw0
  have bxr0 := bxr
  have ki_0 := bxi.c 0 (.int .i64 g1) rfl
  have ki_1 := bxi.c 1 (.slice A1 L1 c1) rfl
  have ki_2 := bxi.c 2 (.int .i64 h1) rfl
  have ki_3 := bxi.c 3 (.slice B1 M1 d1) rfl
  have ki_4 := bxi.c 4 (.int .i64 g2) rfl
  have ki_5 := bxi.c 5 (.slice A2 L2 c2) rfl
  have ki_6 := bxi.c 6 (.int .i64 h2) rfl
  have ki_7 := bxi.c 7 (.slice B2 M2 d2) rfl
  have kr_0 := bxr.c 0 (.int .i64 0) rfl
  have kr_1 := bxr.c 1 (.slice none 0 0) rfl
  have kr_2 := bxr.c 2 (.int .i64 0) rfl
  have kr_3 := bxr.c 3 (.slice none 0 0) rfl
  have kr_4 := bxr.c 4 (.int .i64 0) rfl
  have kr_5 := bxr.c 5 (.slice none 0 0) rfl
  have kr_6 := bxr.c 6 (.int .i64 0) rfl
  have kr_7 := bxr.c 7 (.slice none 0 0) rfl
  go_wp2_with fail
  have HK : Hid (∀ w', Ext w0 w' → (w'.cell? ⟨w.heap.size, 0, none⟩ = some (.int .i64 g1) ∧ w'.cell? ⟨w.heap.size, 1, none⟩ = some (.slice A1 L1 c1) ∧ w'.cell? ⟨w.heap.size, 2, none⟩ = some (.int .i64 h1) ∧ w'.cell? ⟨w.heap.size, 3, none⟩ = some (.slice B1 M1 d1) ∧ w'.cell? ⟨w.heap.size, 4, none⟩ = some (.int .i64 g2) ∧ w'.cell? ⟨w.heap.size, 5, none⟩ = some (.slice A2 L2 c2) ∧ w'.cell? ⟨w.heap.size, 6, none⟩ = some (.int .i64 h2) ∧ w'.cell? ⟨w.heap.size, 7, none⟩ = some (.slice B2 M2 d2))) := fun w' hk => ⟨hk.cell ki_0, hk.cell ki_1, hk.cell ki_2, hk.cell ki_3, hk.cell ki_4, hk.cell ki_5, hk.cell ki_6, hk.cell ki_7⟩
  go_region_held3 (fun w' => w'.cell? ⟨w.heap.size, 0, none⟩ = some (.int .i64 g1) ∧ w'.cell? ⟨w.heap.size, 1, none⟩ = some (.slice A1 L1 c1) ∧ w'.cell? ⟨w.heap.size, 2, none⟩ = some (.int .i64 h1) ∧ w'.cell? ⟨w.heap.size, 3, none⟩ = some (.slice B1 M1 d1) ∧ w'.cell? ⟨w.heap.size, 4, none⟩ = some (.int .i64 g2) ∧ w'.cell? ⟨w.heap.size, 5, none⟩ = some (.slice A2 L2 c2) ∧ w'.cell? ⟨w.heap.size, 6, none⟩ = some (.int .i64 h2) ∧ w'.cell? ⟨w.heap.size, 7, none⟩ = some (.slice B2 M2 d2))
    ((with_reducible refine HK.out _ ?_; (with_reducible repeat' first | exact Ext.refl _ | assumption | apply Ext.alloc_r | apply Ext.drew_r | apply Ext.drewN_r | refine Ext.trans ?_ ‹Ext _ _›)))
    (first
      | (go_at_call_of 73 (#[Value.agg #[Value.int IntKind.i64 g2, Value.slice A2 L2 c2, Value.int IntKind.i64 h2, Value.slice B2 M2 d2], Value.int IntKind.i64 (k : Int)]); have hgd := u; clear hgd; refine (HP2.out _ (by with_reducible repeat' first | exact Ext.refl _ | assumption | apply Ext.alloc_r | apply Ext.drew_r | apply Ext.drewN_r | refine Ext.trans ?_ ‹Ext _ _›)).mono ?_; rintro e w2 ⟨gv, Av, cv, Lv, hv, Bv, dv, Mv, rfl, v, x2⟩)
      | (go_at_call_of 73 (#[Value.agg #[Value.int IntKind.i64 g1, Value.slice A1 L1 c1, Value.int IntKind.i64 h1, Value.slice B1 M1 d1], Value.int IntKind.i64 (k : Int)]); refine (HP1.out _ (by with_reducible repeat' first | exact Ext.refl _ | assumption | apply Ext.alloc_r | apply Ext.drew_r | apply Ext.drewN_r | refine Ext.trans ?_ ‹Ext _ _›)).mono ?_; rintro e w1 ⟨gu, Au, cu, Lu, hu, Bu, du, Mu, rfl, u, x1⟩))
  clear ki_0 ki_1 ki_2 ki_3 ki_4 ki_5 ki_6 ki_7 kr_0 kr_1 kr_2 kr_3 kr_4 kr_5 kr_6 kr_7
  clear HK
  have szw1 : w0.heap.size ≤ w1.heap.size := (show Ext w0 w1 from (by with_reducible repeat' first | exact Ext.refl _ | assumption | apply Ext.alloc_r | apply Ext.drew_r | apply Ext.drewN_r | refine Ext.trans ?_ ‹Ext _ _›)).size
  have xhw2 : Ext w0 w2 := (by with_reducible repeat' first | exact Ext.refl _ | assumption | apply Ext.alloc_r | apply Ext.drew_r | apply Ext.drewN_r | refine Ext.trans ?_ ‹Ext _ _›)
  have szw2 : w0.heap.size ≤ w2.heap.size := xhw2.size
  replace bxi := bxi.ext xhw2
  replace bxr := bxr.ext xhw2
  obtain ⟨wl, hw⟩ : ∃ z : World, z = w2.alloc (.cells #[.int .i64 gu, .slice Au Lu cu, .int .i64 hu, .slice Bu Mu du, .int .i64 gv, .slice Av Lv cv, .int .i64 hv, .slice Bv Mv dv] 36) := ⟨_, rfl⟩
  rw [← hw]
  have xl : Ext w2 wl := by rw [hw]; exact Ext.alloc _ _
  have HG : Hid (GQ wl w0.heap.size D [q1 ^ k, q2 ^ k] (some ⟨w2.heap.size, 0, none⟩) 2) := by rw [hw]; exact GQ.two (by omega) (u.ext (by with_reducible repeat' first | exact Ext.refl _ | assumption | apply Ext.alloc_r | apply Ext.drew_r | apply Ext.drewN_r | refine Ext.trans ?_ ‹Ext _ _›)) (v.ext (by with_reducible repeat' first | exact Ext.refl _ | assumption | apply Ext.alloc_r | apply Ext.drew_r | apply Ext.drewN_r | refine Ext.trans ?_ ‹Ext _ _›))
  have szl : w2.heap.size ≤ wl.heap.size := xl.size
  clear hw u v HP1 HP2
  obtain ⟨bl, hbl⟩ : ∃ b, b = w2.heap.size := ⟨_, rfl⟩
  rw [← hbl] at HG
  rw [← hbl]
  clear hbl
  replace bxi := bxi.ext xl
  replace bxr := bxr.ext xl
  have ki_0 := bxi.c 0 (.int .i64 g1) rfl
  have ki_1 := bxi.c 1 (.slice A1 L1 c1) rfl
  have ki_2 := bxi.c 2 (.int .i64 h1) rfl
  have ki_3 := bxi.c 3 (.slice B1 M1 d1) rfl
  have ki_4 := bxi.c 4 (.int .i64 g2) rfl
  have ki_5 := bxi.c 5 (.slice A2 L2 c2) rfl
  have ki_6 := bxi.c 6 (.int .i64 h2) rfl
  have ki_7 := bxi.c 7 (.slice B2 M2 d2) rfl
  have kr_0 := bxr.c 0 (.int .i64 0) rfl
  have kr_1 := bxr.c 1 (.slice none 0 0) rfl
  have kr_2 := bxr.c 2 (.int .i64 0) rfl
  have kr_3 := bxr.c 3 (.slice none 0 0) rfl
  have kr_4 := bxr.c 4 (.int .i64 0) rfl
  have kr_5 := bxr.c 5 (.slice none 0 0) rfl
  have kr_6 := bxr.c 6 (.int .i64 0) rfl
  have kr_7 := bxr.c 7 (.slice none 0 0) rfl
  go_wp2_with fail
  have HK : Hid (∀ w', Ext wl w' → (w'.cell? ⟨w.heap.size, 0, none⟩ = some (.int .i64 g1) ∧ w'.cell? ⟨w.heap.size, 1, none⟩ = some (.slice A1 L1 c1) ∧ w'.cell? ⟨w.heap.size, 2, none⟩ = some (.int .i64 h1) ∧ w'.cell? ⟨w.heap.size, 3, none⟩ = some (.slice B1 M1 d1) ∧ w'.cell? ⟨w.heap.size, 4, none⟩ = some (.int .i64 g2) ∧ w'.cell? ⟨w.heap.size, 5, none⟩ = some (.slice A2 L2 c2) ∧ w'.cell? ⟨w.heap.size, 6, none⟩ = some (.int .i64 h2) ∧ w'.cell? ⟨w.heap.size, 7, none⟩ = some (.slice B2 M2 d2))) := fun w' hk => ⟨hk.cell ki_0, hk.cell ki_1, hk.cell ki_2, hk.cell ki_3, hk.cell ki_4, hk.cell ki_5, hk.cell ki_6, hk.cell ki_7⟩
  go_region_held3 (fun w' => w'.cell? ⟨w.heap.size, 0, none⟩ = some (.int .i64 g1) ∧ w'.cell? ⟨w.heap.size, 1, none⟩ = some (.slice A1 L1 c1) ∧ w'.cell? ⟨w.heap.size, 2, none⟩ = some (.int .i64 h1) ∧ w'.cell? ⟨w.heap.size, 3, none⟩ = some (.slice B1 M1 d1) ∧ w'.cell? ⟨w.heap.size, 4, none⟩ = some (.int .i64 g2) ∧ w'.cell? ⟨w.heap.size, 5, none⟩ = some (.slice A2 L2 c2) ∧ w'.cell? ⟨w.heap.size, 6, none⟩ = some (.int .i64 h2) ∧ w'.cell? ⟨w.heap.size, 7, none⟩ = some (.slice B2 M2 d2))
    ((with_reducible refine HK.out _ ?_; (with_reducible repeat' first | exact Ext.refl _ | assumption | apply Ext.alloc_r | apply Ext.drew_r | apply Ext.drewN_r | refine Ext.trans ?_ ‹Ext _ _›)))
    (first
      | (go_at_call 21; have hgd := z; clear hgd; refine (jcontains_is (h_1.ext (by with_reducible repeat' first | exact Ext.refl _ | assumption | apply Ext.alloc_r | apply Ext.drew_r | apply Ext.drewN_r | refine Ext.trans ?_ ‹Ext _ _›)) (h_2.ext (by with_reducible repeat' first | exact Ext.refl _ | assumption | apply Ext.alloc_r | apply Ext.drew_r | apply Ext.drewN_r | refine Ext.trans ?_ ‹Ext _ _›)) (z.ext (by with_reducible repeat' first | exact Ext.refl _ | assumption | apply Ext.alloc_r | apply Ext.drew_r | apply Ext.drewN_r | refine Ext.trans ?_ ‹Ext _ _›)) (by omega) HB.out).mono ?_; rintro e w4 ⟨rfl, x4⟩)
      | (go_at_call 51; refine (jnumber_r (n := 0) (K := K) (Nat.zero_le _) hK1 (by omega)).mono ?_; rintro e w3 ⟨gz, Az, cz, Lz, hz, Bz, dz, Mz, rfl, z, x3⟩))
  clear ki_0 ki_1 ki_2 ki_3 ki_4 ki_5 ki_6 ki_7 kr_0 kr_1 kr_2 kr_3 kr_4 kr_5 kr_6 kr_7
  clear HK
  have szw3 : wl.heap.size ≤ w3.heap.size := (show Ext wl w3 from (by with_reducible repeat' first | exact Ext.refl _ | assumption | apply Ext.alloc_r | apply Ext.drew_r | apply Ext.drewN_r | refine Ext.trans ?_ ‹Ext _ _›)).size
  have xhw4 : Ext wl w4 := (by with_reducible repeat' first | exact Ext.refl _ | assumption | apply Ext.alloc_r | apply Ext.drew_r | apply Ext.drewN_r | refine Ext.trans ?_ ‹Ext _ _›)
  have szw4 : wl.heap.size ≤ w4.heap.size := xhw4.size
  replace bxi := bxi.ext xhw4
  replace bxr := bxr.ext xhw4
  clear z HB
  have ki_0 := bxi.c 0 (.int .i64 g1) rfl
  have ki_1 := bxi.c 1 (.slice A1 L1 c1) rfl
  have ki_2 := bxi.c 2 (.int .i64 h1) rfl
  have ki_3 := bxi.c 3 (.slice B1 M1 d1) rfl
  have ki_4 := bxi.c 4 (.int .i64 g2) rfl
  have ki_5 := bxi.c 5 (.slice A2 L2 c2) rfl
  have ki_6 := bxi.c 6 (.int .i64 h2) rfl
  have ki_7 := bxi.c 7 (.slice B2 M2 d2) rfl
  have kr_0 := bxr.c 0 (.int .i64 0) rfl
  have kr_1 := bxr.c 1 (.slice none 0 0) rfl
  have kr_2 := bxr.c 2 (.int .i64 0) rfl
  have kr_3 := bxr.c 3 (.slice none 0 0) rfl
  have kr_4 := bxr.c 4 (.int .i64 0) rfl
  have kr_5 := bxr.c 5 (.slice none 0 0) rfl
  have kr_6 := bxr.c 6 (.int .i64 0) rfl
  have kr_7 := bxr.c 7 (.slice none 0 0) rfl
  go_wp2_with fail
  clear ki_0 ki_1 ki_2 ki_3 ki_4 ki_5 ki_6 ki_7 kr_0 kr_1 kr_2 kr_3 kr_4 kr_5 kr_6 kr_7
  refine (jnumber_r (n := 0) (K := D) (Nat.zero_le _) hD1 (by omega)).mono ?_
  rintro e w5 ⟨gy, Ay, cy, Ly, hy, By, dy, My, rfl, y, x5⟩
  have szw5 : w4.heap.size ≤ w5.heap.size := x5.size
  replace bxi := bxi.ext x5
  replace bxr := bxr.ext x5
  have HY := Lib.hid y
  clear y
  have szw0 : w0.heap.size ≤ w5.heap.size := (show Ext w0 w5 from (by with_reducible repeat' first | exact Ext.refl _ | assumption | apply Ext.alloc_r | apply Ext.drew_r | apply Ext.drewN_r | refine Ext.trans ?_ ‹Ext _ _›)).size
  go_wp2_with (at_builtin; refine wpList_GQ rfl _ _ rfl w0.heap.size D [q1 ^ k, q2 ^ k] (some ⟨bl, 0, none⟩) 2 2 rfl rfl ?hG w5.heap.size gy Ay cy Ly hy By dy My ((0 : Int) : Rat) rfl ?h0 ?h1 ?h2 ?h3 ?hq (by omega) ?hB ?hh)
  case hG => exact HG.out.ext (by with_reducible repeat' first | exact Ext.refl _ | assumption | apply Ext.alloc_r | apply Ext.drew_r | apply Ext.drewN_r | refine Ext.trans ?_ ‹Ext _ _›)
  case h0 => exact (BK.new _ _ _).c 0 _ rfl
  case h1 => exact (BK.new _ _ _).c 1 _ rfl
  case h2 => exact (BK.new _ _ _).c 2 _ rfl
  case h3 => exact (BK.new _ _ _).c 3 _ rfl
  case hq => exact HY.out.ext (Ext.alloc _ _)
  case hB => simp only [World.size_alloc]; omega
  case hh =>
    intro A2 c2 w7 hG2 hkp hx7
    have x7 : Ext w0 w7 := hx7 w0 (by with_reducible repeat' first | exact Ext.refl _ | assumption | apply Ext.alloc_r | apply Ext.drew_r | apply Ext.drewN_r | refine Ext.trans ?_ ‹Ext _ _›) (by omega)
    have HG2 := Lib.hid hG2
    clear HG HY hG2 hkp hx7 bxr bxi
    have bxr := bxr0.ext x7
    have sz7 : w0.heap.size ≤ w7.heap.size := x7.size
    have kr_0 := bxr.c 0 (.int .i64 0) rfl
    have kr_1 := bxr.c 1 (.slice none 0 0) rfl
    have kr_2 := bxr.c 2 (.int .i64 0) rfl
    have kr_3 := bxr.c 3 (.slice none 0 0) rfl
    have kr_4 := bxr.c 4 (.int .i64 0) rfl
    have kr_5 := bxr.c 5 (.slice none 0 0) rfl
    have kr_6 := bxr.c 6 (.int .i64 0) rfl
    have kr_7 := bxr.c 7 (.slice none 0 0) rfl
    go_wp2_with fail
    clear kr_0 kr_1 kr_2 kr_3 kr_4 kr_5 kr_6 kr_7
    refine (jhull_l HG2.out.cql rfl (by show 1 ≤ 3; omega) (by show 3 ≤ 100; omega) hD2).mono ?_
    rintro e w6 ⟨gsa, Asa, csa, Lsa, hsa, Bsa, dsa, Msa, gsb, Asb, csb, Lsb, hsb, Bsb, dsb, Msb, rfl, sa, sb, x6⟩
    have szw6 : w7.heap.size ≤ w6.heap.size := x6.size
    replace bxr := bxr.ext x6
    have HS1 : Hid (QR w6 gsa Asa csa Lsa hsa Bsa dsa Msa D (plo q1 q2 k)) := by show _; rw [HE.out.1]; exact sa
    have HS2 : Hid (QR w6 gsb Asb csb Lsb hsb Bsb dsb Msb D (phi q1 q2 k)) := by show _; rw [HE.out.2]; exact sb
    clear sa sb HE
    have kr_0 := bxr.c 0 (.int .i64 0) rfl
    have fr_0 := bxr.f 0
    have kr_1 := bxr.c 1 (.slice none 0 0) rfl
    have fr_1 := bxr.f 1
    have kr_2 := bxr.c 2 (.int .i64 0) rfl
    have fr_2 := bxr.f 2
    have kr_3 := bxr.c 3 (.slice none 0 0) rfl
    have fr_3 := bxr.f 3
    have kr_4 := bxr.c 4 (.int .i64 0) rfl
    have fr_4 := bxr.f 4
    have kr_5 := bxr.c 5 (.slice none 0 0) rfl
    have fr_5 := bxr.f 5
    have kr_6 := bxr.c 6 (.int .i64 0) rfl
    have fr_6 := bxr.f 6
    have kr_7 := bxr.c 7 (.slice none 0 0) rfl
    have fr_7 := bxr.f 7
    go_wp2_with fail
    clear kr_0 fr_0 kr_1 fr_1 kr_2 fr_2 kr_3 fr_3 kr_4 fr_4 kr_5 fr_5 kr_6 fr_6 kr_7 fr_7
    have sa := HS1.out
    have sb := HS2.out
    clear HS1 HS2
    obtain ⟨w7, hw⟩ : ∃ z : World, z = ((((((((w6.setCell ⟨w.heap.size + 1, 0, none⟩ (.int .i64 gsa)).setCell ⟨w.heap.size + 1, 1, none⟩ (.slice Asa Lsa csa)).setCell ⟨w.heap.size + 1, 2, none⟩ (.int .i64 hsa)).setCell ⟨w.heap.size + 1, 3, none⟩ (.slice Bsa Msa dsa)).setCell ⟨w.heap.size + 1, 4, none⟩ (.int .i64 gsb)).setCell ⟨w.heap.size + 1, 5, none⟩ (.slice Asb Lsb csb)).setCell ⟨w.heap.size + 1, 6, none⟩ (.int .i64 hsb)).setCell ⟨w.heap.size + 1, 7, none⟩ (.slice Bsb Msb dsb)) := ⟨_, rfl⟩
    rw [← hw]
    have kw7 : Kept w6 w7 := by rw [hw]; exact (Kept.set_ (Kept.set_ (Kept.set_ (Kept.set_ (Kept.set_ (Kept.set_ (Kept.set_ (Kept.set_ (Kept.refl _) bxr.isBox plain_J) (IsBox.set_ bxr.isBox) plain_J) (IsBox.set_ (IsBox.set_ bxr.isBox)) plain_J) (IsBox.set_ (IsBox.set_ (IsBox.set_ bxr.isBox))) plain_J) (IsBox.set_ (IsBox.set_ (IsBox.set_ (IsBox.set_ bxr.isBox)))) plain_J) (IsBox.set_ (IsBox.set_ (IsBox.set_ (IsBox.set_ (IsBox.set_ bxr.isBox))))) plain_J) (IsBox.set_ (IsBox.set_ (IsBox.set_ (IsBox.set_ (IsBox.set_ (IsBox.set_ bxr.isBox)))))) plain_J) (IsBox.set_ (IsBox.set_ (IsBox.set_ (IsBox.set_ (IsBox.set_ (IsBox.set_ (IsBox.set_ bxr.isBox))))))) plain_J)
    have nbr : BK w7 (w.heap.size + 1) 38 #[.int .i64 gsa, .slice Asa Lsa csa, .int .i64 hsa, .slice Bsa Msa dsa, .int .i64 gsb, .slice Asb Lsb csb, .int .i64 hsb, .slice Bsb Msb dsb] := by rw [hw]; exact (BK.set (i := 7) (u := .slice Bsb Msb dsb) (vs' := #[.int .i64 gsa, .slice Asa Lsa csa, .int .i64 hsa, .slice Bsa Msa dsa, .int .i64 gsb, .slice Asb Lsb csb, .int .i64 hsb, .slice Bsb Msb dsb]) (BK.set (i := 6) (u := .int .i64 hsb) (vs' := #[.int .i64 gsa, .slice Asa Lsa csa, .int .i64 hsa, .slice Bsa Msa dsa, .int .i64 gsb, .slice Asb Lsb csb, .int .i64 hsb, .slice none 0 0]) (BK.set (i := 5) (u := .slice Asb Lsb csb) (vs' := #[.int .i64 gsa, .slice Asa Lsa csa, .int .i64 hsa, .slice Bsa Msa dsa, .int .i64 gsb, .slice Asb Lsb csb, .int .i64 0, .slice none 0 0]) (BK.set (i := 4) (u := .int .i64 gsb) (vs' := #[.int .i64 gsa, .slice Asa Lsa csa, .int .i64 hsa, .slice Bsa Msa dsa, .int .i64 gsb, .slice none 0 0, .int .i64 0, .slice none 0 0]) (BK.set (i := 3) (u := .slice Bsa Msa dsa) (vs' := #[.int .i64 gsa, .slice Asa Lsa csa, .int .i64 hsa, .slice Bsa Msa dsa, .int .i64 0, .slice none 0 0, .int .i64 0, .slice none 0 0]) (BK.set (i := 2) (u := .int .i64 hsa) (vs' := #[.int .i64 gsa, .slice Asa Lsa csa, .int .i64 hsa, .slice none 0 0, .int .i64 0, .slice none 0 0, .int .i64 0, .slice none 0 0]) (BK.set (i := 1) (u := .slice Asa Lsa csa) (vs' := #[.int .i64 gsa, .slice Asa Lsa csa, .int .i64 0, .slice none 0 0, .int .i64 0, .slice none 0 0, .int .i64 0, .slice none 0 0]) (BK.set (i := 0) (u := .int .i64 gsa) (vs' := #[.int .i64 gsa, .slice none 0 0, .int .i64 0, .slice none 0 0, .int .i64 0, .slice none 0 0, .int .i64 0, .slice none 0 0]) bxr rfl) rfl) rfl) rfl) rfl) rfl) rfl) rfl)
    have x7 : Ext w w7 := by rw [hw]; have hxp : Ext w w6 := (by with_reducible repeat' first | exact Ext.refl _ | assumption | apply Ext.alloc_r | apply Ext.drew_r | apply Ext.drewN_r | refine Ext.trans ?_ ‹Ext _ _›); exact (Ext.set_ (Ext.set_ (Ext.set_ (Ext.set_ (Ext.set_ (Ext.set_ (Ext.set_ (Ext.set_ hxp (show _ ≤ w.heap.size + 1 by omega)) (show _ ≤ w.heap.size + 1 by omega)) (show _ ≤ w.heap.size + 1 by omega)) (show _ ≤ w.heap.size + 1 by omega)) (show _ ≤ w.heap.size + 1 by omega)) (show _ ≤ w.heap.size + 1 by omega)) (show _ ≤ w.heap.size + 1 by omega)) (show _ ≤ w.heap.size + 1 by omega))
    clear bxr
    have bxr := nbr
    clear nbr
    have szw7 : w7.heap.size = w6.heap.size := by rw [hw]; simp
    replace sa := (sa.ext (by with_reducible repeat' first | exact Ext.refl _ | assumption | apply Ext.alloc_r | apply Ext.drew_r | apply Ext.drewN_r | refine Ext.trans ?_ ‹Ext _ _›)).kept kw7
    replace sb := (sb.ext (by with_reducible repeat' first | exact Ext.refl _ | assumption | apply Ext.alloc_r | apply Ext.drew_r | apply Ext.drewN_r | refine Ext.trans ?_ ‹Ext _ _›)).kept kw7
    clear hw kw7
    have HU := Lib.hid sa
    have HV := Lib.hid sb
    clear sa sb
    have kr_0 := bxr.c 0 (.int .i64 gsa) rfl
    have kr_1 := bxr.c 1 (.slice Asa Lsa csa) rfl
    have kr_2 := bxr.c 2 (.int .i64 hsa) rfl
    have kr_3 := bxr.c 3 (.slice Bsa Msa dsa) rfl
    have kr_4 := bxr.c 4 (.int .i64 gsb) rfl
    have kr_5 := bxr.c 5 (.slice Asb Lsb csb) rfl
    have kr_6 := bxr.c 6 (.int .i64 hsb) rfl
    have kr_7 := bxr.c 7 (.slice Bsb Msb dsb) rfl
    refine bodyPost_ret (v := Value.agg #[Value.int IntKind.i64 gsa, Value.slice Asa Lsa csa, Value.int IntKind.i64 hsa, Value.slice Bsa Msa dsa, Value.int IntKind.i64 gsb, Value.slice Asb Lsb csb, Value.int IntKind.i64 hsb, Value.slice Bsb Msb dsb]) (by simp [results, Tryz.results45, go_sem, kr_0, kr_1, kr_2, kr_3, kr_4, kr_5, kr_6, kr_7]) rfl ?_
    exact ⟨_, _, _, _, _, _, _, _, _, _, _, _, _, _, _, _, rfl, HU.out, HV.out, x7⟩
theorem jpow_r {w : World} {K k : Nat} {g1 h1 g2 h2 : Int} {A1 B1 A2 B2 : Option Addr} {c1 d1 L1 M1 c2 d2 L2 M2 : Nat} {q1 q2 : Rat} (h_1 : QR w g1 A1 c1 L1 h1 B1 d1 M1 K q1) (h_2 : QR w g2 A2 c2 L2 h2 B2 d2 M2 K q2) (hle : q1 ≤ q2) (hK1 : 1 ≤ K) (hk : k ≤ 1000) (hK : K ≤ 1000) :
    Calls Tryz.prog 45 #[Value.agg #[Value.int IntKind.i64 g1, Value.slice A1 L1 c1, Value.int IntKind.i64 h1, Value.slice B1 M1 d1, Value.int IntKind.i64 g2, Value.slice A2 L2 c2, Value.int IntKind.i64 h2, Value.slice B2 M2 d2], .int .i64 k] w (RetJ w (1 + k * K) (plo q1 q2 k) (phi q1 q2 k)) := by
  rcases Nat.eq_zero_or_pos k with h | h
  · exact jpow_k0 h_1 h_2 hle hK1 hk hK h
  · by_cases hz : q1 ≤ ((0 : Int) : Rat) ∧ ((0 : Int) : Rat) ≤ q2
    · exact jpow_yes h_1 h_2 hK1 hk hK h hz
    · exact jpow_no h_1 h_2 hle hK1 hk hK h hz
end Go.Proofs.YtehhkeenjlpikaaGreat
