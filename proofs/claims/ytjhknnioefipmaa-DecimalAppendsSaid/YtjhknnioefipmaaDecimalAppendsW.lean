/- The walk of DecimalAppends. -/
import Derived.Test.YtjhknnioefipmaaLaw4
import Derived.Test.YtjhknnioefipmaaKept
import Derived.Test.YtjhknnioefipmaaRefJ
import Derived.Test.YtjhknnioefipmaaLaw4b
import Derived.Test.YtjhknnioefipmaaLaw4c
import Derived.Test.YtjhknnioefipmaaLaw2b
namespace Go.Proofs.Ytjhknnioefipmaa
open Go.RowKit
set_option maxHeartbeats 40000000 in
set_option maxRecDepth 100000 in
theorem decimalAppends_walk {w : World} {m : Nat} {s1 : Bool} {A1 : Option Addr} {c1 L1 : Nat} {z1 : Int} (h1 : ZV w s1 A1 c1 L1 z1) (hm : m < 256) :
    Calls Try.prog 10 #[.agg #[.bool s1, .slice A1 L1 c1], .int .u8 m] w fun e w' => e = .returned (.bool true) ∧ Ext w w' := by
  have p1 := h1.nv.cap
  have q1 := h1.nv.le
  obtain ⟨k, hk0⟩ : ∃ k : Nat, k = m % 10 := ⟨_, rfl⟩
  have hk : (m : Int) % 10 = (k : Int) := by omega
  have hk10 : k < 10 := by omega
  clear hk0
  by_cases hf : L1 ≤ 30
  · by_cases hz : z1 = 0
    · have hs0 : (z1.sign == 0) = true := by rw [hz]; rfl
      clear hz
      go_enter Try.func10, Try.ntmps10
      go_wp2_with fail
      obtain ⟨w0, hw0⟩ : ∃ z : World, z = (w.alloc (.cells #[.bool s1, .slice A1 L1 c1] 25)) := ⟨_, rfl⟩
      rw [← hw0]
      have b0 := box_at w #[.bool s1, .slice A1 L1 c1] 25
      have hsz : w0.heap.size = w.heap.size + 1 := by rw [hw0]; simp
      rw [← hw0] at b0
      have y0 : Ext w w0 := by rw [hw0]; exact Ext.alloc _ _
      have x0 : Ext w w0 := y0
      have e0_0 := b0.1 0 (.bool s1) rfl
      have e0_1 := b0.1 1 (.slice A1 L1 c1) rfl
      clear hw0 b0 y0
      go_wp2_with fail
      refine (lawake4 _).mono ?_
      rintro e w1 ⟨rfl, x1⟩
      replace e0_0 := x1.cell e0_0
      replace e0_1 := x1.cell e0_1
      go_wp2_with fail
      refine (sign_z (h1.ext (by repeat' (first | with_reducible exact Ext.refl _ | with_reducible assumption | with_reducible apply Ext.alloc_r | with_reducible apply Ext.drew_r | with_reducible apply Ext.drewN_r | with_reducible refine Ext.trans ?_ ‹Ext _ _›)))).mono ?_
      rintro e w2 ⟨rfl, x2⟩
      replace e0_0 := x2.cell e0_0
      replace e0_1 := x2.cell e0_1
      generalize z1.sign = sg at *
      go_wp2_with fail
      refine (lawake4 _).mono ?_
      rintro e w3 ⟨rfl, x3⟩
      replace e0_0 := x3.cell e0_0
      replace e0_1 := x3.cell e0_1
      go_wp2_with fail
      go_ret
      exact ⟨rfl, (by repeat' (first | with_reducible exact Ext.refl _ | with_reducible assumption | with_reducible apply Ext.alloc_r | with_reducible apply Ext.drew_r | with_reducible apply Ext.drewN_r | with_reducible refine Ext.trans ?_ ‹Ext _ _›))⟩
    · have hs0 : (z1.sign == 0) = false := by simp; exact hz
      have b1 : dl z1.natAbs ≤ 30 := Nat.le_trans h1.nv.dl hf
      have b2 : bl z1.natAbs ≤ 960 := Nat.le_trans h1.nv.bl (by omega)
      go_enter Try.func10, Try.ntmps10
      go_wp2_with fail
      obtain ⟨w0, hw0⟩ : ∃ z : World, z = (w.alloc (.cells #[.bool s1, .slice A1 L1 c1] 25)) := ⟨_, rfl⟩
      rw [← hw0]
      have b0 := box_at w #[.bool s1, .slice A1 L1 c1] 25
      have hsz : w0.heap.size = w.heap.size + 1 := by rw [hw0]; simp
      rw [← hw0] at b0
      have y0 : Ext w w0 := by rw [hw0]; exact Ext.alloc _ _
      have x0 : Ext w w0 := y0
      have e0_0 := b0.1 0 (.bool s1) rfl
      have e0_1 := b0.1 1 (.slice A1 L1 c1) rfl
      clear hw0 b0 y0
      go_wp2_with fail
      refine (lawake4 _).mono ?_
      rintro e w1 ⟨rfl, x1⟩
      replace e0_0 := x1.cell e0_0
      replace e0_1 := x1.cell e0_1
      go_wp2_with fail
      refine (sign_z (h1.ext (by repeat' (first | with_reducible exact Ext.refl _ | with_reducible assumption | with_reducible apply Ext.alloc_r | with_reducible apply Ext.drew_r | with_reducible apply Ext.drewN_r | with_reducible refine Ext.trans ?_ ‹Ext _ _›)))).mono ?_
      rintro e w2 ⟨rfl, x2⟩
      replace e0_0 := x2.cell e0_0
      replace e0_1 := x2.cell e0_1
      obtain ⟨Y, hY⟩ : ∃ Y : Int, Y = z1 * 10 + (if z1 < 0 then -(k : Int) else (k : Int)) := ⟨_, rfl⟩
      have hap := fmt_app hk10 hz hY
      have HAP := Lib.hid hap.1
      have HLE := Lib.hid hap.2
      have HY := Lib.hid hY
      have hdy : dl Y.natAbs ≤ 32 := by
        have h5 : Y.natAbs ≤ z1.natAbs * 10 + 9 := by rw [hY]; split <;> omega
        have h6 := dl_mono h5
        have h7 := dl_add (z1.natAbs * 10) 9
        have h8 := dl_mul z1.natAbs 10
        have h9 : dl 10 ≤ 1 := dl_le (by unfold B32; omega)
        have h10 : dl 9 ≤ 1 := dl_le (by unfold B32; omega)
        omega
      clear hap hY
      have hw1 : IntKind.i64.wrap ((k : Int) + 1) = (k : Int) + 1 := IntWalk.i64_in _ (by omega)
      obtain ⟨d, hd⟩ : ∃ d, d = (ByteArray.mk #[48, 49, 50, 51, 52, 53, 54, 55, 56, 57]).extract k (k + 1) := ⟨_, rfl⟩
      have hdb : bs d = [48 + k] := by rw [hd]; exact bs_dec hk10
      have hds : d.size = 1 := by rw [← bs_length, hdb]; rfl
      have hsl : ∀ w, (Instr.slice 9 (.string ⟨#[48, 49, 50, 51, 52, 53, 54, 55, 56, 57]⟩) (some (.int .i64 (k : Int))) (some (.int .i64 ((k : Int) + 1))) none).run Try.prog w = .ok (.string d) w := fun w => by
        have h5 := run_slice_string (P := Try.prog) w 9 ⟨#[48, 49, 50, 51, 52, 53, 54, 55, 56, 57]⟩ .i64 .i64 (k : Int) ((k : Int) + 1) Try.underlying9 (by omega) (by omega) (by show (k : Int) + 1 ≤ 10; omega)
        rw [h5, hd]
        congr 2
      have HDB := Lib.hid hdb
      clear hd hdb hz
      have HPA : Hid (∀ w' t, bs t = fmtL 10 z1 → t.size ≤ 1000 → Calls Try.prog 18 #[.string (t ++ d)] w' (RetZE w' Y)) := fun w' t ht hs => Parse_yes (by rw [ByteArray.size_append, hds]; omega) (by rw [bs_append, ht, HDB.out, HAP.out])
      have HFM : Hid (∀ w', Ext w w' → Calls Try.prog 14 #[.agg #[.bool s1, .slice A1 L1 c1]] w' fun e w'' => ∃ t, e = .returned (.string t) ∧ (bs t = fmtL 10 z1 ∧ t.size ≤ 1000 ∧ ∀ w, (Op.stringOp .add t d).run Try.prog w = .ok (.string (t ++ d)) w) ∧ Ext w' w'') := fun w' hx => by
        refine (Format_z (h1.ext hx) (by omega)).mono ?_
        rintro e w'' ⟨t, rfl, ht, hx'⟩
        have h5 := fmt_le (b := 10) (by omega) z1
        rw [← ht, bs_length] at h5
        exact ⟨t, rfl, ⟨ht, by omega, fun w => run_string_add_sum w t d (by omega)⟩, hx'⟩
      go_wp2_with fail
      go_cut [6, 7] (fun s6 s7 wx => PutZ w2 wx Y s6 ∧ s7 = Value.int .i64 0)
      case first =>
        have HK : Hid (∀ w', Ext w2 w' → Ext w2 w' ∧ w'.cell? ⟨w.heap.size, 0, none⟩ = some (.bool s1) ∧ w'.cell? ⟨w.heap.size, 1, none⟩ = some (.slice A1 L1 c1)) := fun w' hk => ⟨hk, hk.cell e0_0, hk.cell e0_1⟩
        first
        | go_region_held3 (fun w' => Ext w2 w' ∧ w'.cell? ⟨w.heap.size, 0, none⟩ = some (.bool s1) ∧ w'.cell? ⟨w.heap.size, 1, none⟩ = some (.slice A1 L1 c1))
            ((refine HK.out _ ?_; (repeat' (first | with_reducible exact Ext.refl _ | with_reducible assumption | with_reducible apply Ext.alloc_r | with_reducible apply Ext.drew_r | with_reducible apply Ext.drewN_r | with_reducible apply Ext.set_r | with_reducible exact Nat.le_refl _ | omega | with_reducible refine Ext.trans ?_ ‹Ext _ _›))))
            (first
              | (go_at_call 18; have hgd := f; clear hgd; refine (HPA.out _ _ f hts).mono ?_; rintro e w4 ⟨sb, Ab, cb, Lb, rfl, b, x4⟩; (have zs4 := x4.size); (try simp only [World.size_alloc] at zs4); (try ((with_reducible have h4_0 := box_ext (vs := #[.bool false, .slice none 0 0]) x4); have h4_0c0 := (h4_0.1 0 (.bool false) rfl).1; have h4_0f0 := (h4_0.1 0 (.bool false) rfl).2; have h4_0c1 := (h4_0.1 1 (.slice none 0 0) rfl).1; have h4_0f1 := (h4_0.1 1 (.slice none 0 0) rfl).2; have h4_0b := h4_0.2.1; have h4_0z := h4_0.2.2; (try simp only [World.size_alloc] at h4_0b h4_0z h4_0c0 h4_0f0 h4_0c1 h4_0f1); have h4_0m := Nat.ne_of_lt h4_0z; have h4_0n := Nat.ne_of_gt h4_0z; clear h4_0)); (try (have hh : Ext w3 w4 := ?g400; (case g400 => ((repeat' (first | with_reducible exact Ext.refl _ | with_reducible assumption | with_reducible apply Ext.alloc_r | with_reducible apply Ext.drew_r | with_reducible apply Ext.drewN_r | with_reducible refine Ext.trans ?_ ‹Ext _ _›)); done)); replace h3_0f0 := hh.frozen h3_0c0 h3_0f0; replace h3_0c0 := hh.cell h3_0c0; replace h3_0f1 := hh.frozen h3_0c1 h3_0f1; replace h3_0c1 := hh.cell h3_0c1; replace h3_0b := h3_0b.ext hh; have h3_0z2 := Nat.lt_of_lt_of_le h3_0z hh.size; have h3_0m2 := Nat.ne_of_lt h3_0z2; have h3_0n2 := Nat.ne_of_gt h3_0z2; clear hh)))
              | (go_at_call 14; refine (HFM.out _ (by repeat' (first | with_reducible exact Ext.refl _ | with_reducible assumption | with_reducible apply Ext.alloc_r | with_reducible apply Ext.drew_r | with_reducible apply Ext.drewN_r | with_reducible refine Ext.trans ?_ ‹Ext _ _›))).mono ?_; rintro e w3 ⟨tf, rfl, ⟨f, hts, hadd⟩, x3⟩; (have zs3 := x3.size); (try simp only [World.size_alloc, World.size_drew] at zs3); (try ((with_reducible have h3_0 := box_ext (vs := #[.bool false, .slice none 0 0]) ((Ext.drew _).trans x3)); have h3_0c0 := (h3_0.1 0 (.bool false) rfl).1; have h3_0f0 := (h3_0.1 0 (.bool false) rfl).2; have h3_0c1 := (h3_0.1 1 (.slice none 0 0) rfl).1; have h3_0f1 := (h3_0.1 1 (.slice none 0 0) rfl).2; have h3_0b := h3_0.2.1; have h3_0z := h3_0.2.2; (try simp only [World.size_alloc] at h3_0b h3_0z h3_0c0 h3_0f0 h3_0c1 h3_0f1); have h3_0m := Nat.ne_of_lt h3_0z; have h3_0n := Nat.ne_of_gt h3_0z; clear h3_0))))
        | fail
        all_goals (clear HK; go_wp2_with fail; go_meet)
        all_goals
          refine And.intro ?_ rfl
          refine PutZ.mk (sb := sb) (A := Ab) (c := cb) (L := Lb) ?_ ((b.mono (Ext.size (by repeat' (first | with_reducible exact Ext.refl _ | with_reducible assumption | with_reducible apply Ext.alloc_r | with_reducible apply Ext.drew_r | with_reducible apply Ext.drewN_r | with_reducible refine Ext.trans ?_ ‹Ext _ _›)))).kept ?_) ?_
          · refine Bx.mk2 ?_ ?_
            · go_simp
            · go_simp
          · (repeat' (first | with_reducible exact Kept.refl _ | with_reducible apply Kept.alloc_r | with_reducible apply Kept.drew_r | (with_reducible apply Kept.setZ; (case hb => ((repeat' (first | with_reducible assumption | with_reducible apply IsBox.set_ | (with_reducible apply IsBox.new; (first | (with_reducible rfl) | simp); done) | with_reducible apply IsBox.alloc_ | with_reducible apply IsBox.drew_ | with_reducible refine IsBox.ext ?_ ‹Ext _ _›)); done))) | (with_reducible apply Kept.setI; (case hb => ((repeat' (first | with_reducible assumption | with_reducible apply IsBox.set_ | (with_reducible apply IsBox.new; (first | (with_reducible rfl) | simp); done) | with_reducible apply IsBox.alloc_ | with_reducible apply IsBox.drew_ | with_reducible refine IsBox.ext ?_ ‹Ext _ _›)); done))) | with_reducible refine Kept.trans ?_ (Ext.kept ‹Ext _ _›)))
          · (repeat' (first | with_reducible exact Ext.refl _ | with_reducible assumption | with_reducible apply Ext.alloc_r | with_reducible apply Ext.drew_r | with_reducible apply Ext.drewN_r | with_reducible apply Ext.set_r | with_reducible exact Nat.le_refl _ | omega | with_reducible refine Ext.trans ?_ ‹Ext _ _›))
      case rest =>
        have hcw := hcut.1
        have hc_0 := hcw
        obtain ⟨sy, Ay, cy, Ly, ⟨bky, rfl, ccy⟩, y, xxy⟩ := hc_0
        have x5 := xxy
        clear xxy
        replace e0_0 := x5.cell e0_0
        replace e0_1 := x5.cell e0_1
        have y_0 := ccy 0 (.bool sy) rfl
        have y_1 := ccy 1 (.slice Ay Ly cy) rfl
        clear ccy
        obtain rfl := hcut.2
        have hsc := sign_cases z1
        go_wp2_with fail
        refine (sign_z (h1.ext (by repeat' (first | with_reducible exact Ext.refl _ | with_reducible assumption | with_reducible apply Ext.alloc_r | with_reducible apply Ext.drew_r | with_reducible apply Ext.drewN_r | with_reducible refine Ext.trans ?_ ‹Ext _ _›)))).mono ?_
        rintro e w6 ⟨rfl, x6⟩
        replace e0_0 := x6.cell e0_0
        replace e0_1 := x6.cell e0_1
        replace y_0 := x6.cell y_0
        replace y_1 := x6.cell y_1
        by_cases hneg : z1 < 0
        · have hs1 : z1.sign < 0 := by omega
          obtain ⟨K, hK⟩ : ∃ K : Int, K = -(k : Int) := ⟨_, rfl⟩
          have hYK : z1 * 10 + K = Y := by rw [HY.out, hK, if_pos hneg]
          have hkb : -9 ≤ K ∧ K ≤ 9 := by omega
          have hK' := hK.symm
          have HMU : Hid (∀ w' s2 A2 c2 L2, Ext w w' → ZV w' s2 A2 c2 L2 10 → Calls Try.prog 27 #[.agg #[.bool s1, .slice A1 L1 c1], .agg #[.bool s2, .slice A2 L2 c2]] w' (RetZ w' (z1 * 10))) := fun w' s2 A2 c2 L2 hx h2 => by
            have h9 : dl (10 : Int).natAbs ≤ 1 := dl_le (by show 10 < _; unfold B32; omega)
            exact mul_z (h1.ext hx) h2 (by omega) (by omega)
          have HAD : Hid (∀ w' s2 A2 c2 L2 s3 A3 c3 L3, ZV w' s2 A2 c2 L2 (z1 * 10) → ZV w' s3 A3 c3 L3 K → Calls Try.prog 26 #[.agg #[.bool s2, .slice A2 L2 c2], .agg #[.bool s3, .slice A3 L3 c3]] w' (RetZ w' Y)) := fun w' s2 A2 c2 L2 s3 A3 c3 L3 h2 h3 => by
            have h9 : dl (10 : Int).natAbs ≤ 1 := dl_le (by show 10 < _; unfold B32; omega)
            have h10 : dl K.natAbs ≤ 1 := dl_le (by unfold B32; omega)
            have h11 := dlz_mul z1 10
            have := add_z h2 h3 (by omega) (by omega)
            rwa [hYK] at this
          clear hsc hneg hK hYK
          generalize z1.sign = sg at *
          go_wp2_with fail
          go_cut [8] (fun s8 wx => PutZ w6 wx Y s8)
          case first =>
            have HK : Hid (∀ w', Ext w6 w' → Ext w6 w' ∧ w'.cell? ⟨w.heap.size, 0, none⟩ = some (.bool s1) ∧ w'.cell? ⟨w.heap.size, 1, none⟩ = some (.slice A1 L1 c1) ∧ w'.cell? ⟨bky, 0, none⟩ = some (.bool sy) ∧ w'.cell? ⟨bky, 1, none⟩ = some (.slice Ay Ly cy)) := fun w' hk => ⟨hk, hk.cell e0_0, hk.cell e0_1, hk.cell y_0, hk.cell y_1⟩
            first
            | go_region_held3 (fun w' => Ext w6 w' ∧ w'.cell? ⟨w.heap.size, 0, none⟩ = some (.bool s1) ∧ w'.cell? ⟨w.heap.size, 1, none⟩ = some (.slice A1 L1 c1) ∧ w'.cell? ⟨bky, 0, none⟩ = some (.bool sy) ∧ w'.cell? ⟨bky, 1, none⟩ = some (.slice Ay Ly cy))
                ((refine HK.out _ ?_; (repeat' (first | with_reducible exact Ext.refl _ | with_reducible assumption | with_reducible apply Ext.alloc_r | with_reducible apply Ext.drew_r | with_reducible apply Ext.drewN_r | with_reducible apply Ext.set_r | with_reducible exact Nat.le_refl _ | omega | with_reducible refine Ext.trans ?_ ‹Ext _ _›))))
                (first
                  | (go_at_call 26; have hgd := kk; clear hgd; refine (HAD.out _ _ _ _ _ _ _ _ _ (pr.zv.ext (by repeat' (first | with_reducible exact Ext.refl _ | with_reducible assumption | with_reducible apply Ext.alloc_r | with_reducible apply Ext.drew_r | with_reducible apply Ext.drewN_r | with_reducible refine Ext.trans ?_ ‹Ext _ _›))) (kk.zv.ext (by repeat' (first | with_reducible exact Ext.refl _ | with_reducible assumption | with_reducible apply Ext.alloc_r | with_reducible apply Ext.drew_r | with_reducible apply Ext.drewN_r | with_reducible refine Ext.trans ?_ ‹Ext _ _›)))).mono ?_; rintro e w10 ⟨ssm, Asm, csm, Lsm, rfl, sm, x10⟩; (have zs10 := x10.size); (try simp only [World.size_alloc] at zs10); (try ((with_reducible have h10_0 := box_ext (vs := #[.bool false, .slice none 0 0]) x10); have h10_0c0 := (h10_0.1 0 (.bool false) rfl).1; have h10_0f0 := (h10_0.1 0 (.bool false) rfl).2; have h10_0c1 := (h10_0.1 1 (.slice none 0 0) rfl).1; have h10_0f1 := (h10_0.1 1 (.slice none 0 0) rfl).2; have h10_0b := h10_0.2.1; have h10_0z := h10_0.2.2; (try simp only [World.size_alloc] at h10_0b h10_0z h10_0c0 h10_0f0 h10_0c1 h10_0f1); have h10_0m := Nat.ne_of_lt h10_0z; have h10_0n := Nat.ne_of_gt h10_0z; clear h10_0)); (try (have hh : Ext w7 w10 := ?g1000; (case g1000 => ((repeat' (first | with_reducible exact Ext.refl _ | with_reducible assumption | with_reducible apply Ext.alloc_r | with_reducible apply Ext.drew_r | with_reducible apply Ext.drewN_r | with_reducible refine Ext.trans ?_ ‹Ext _ _›)); done)); replace h7_0f0 := hh.frozen h7_0c0 h7_0f0; replace h7_0c0 := hh.cell h7_0c0; replace h7_0f1 := hh.frozen h7_0c1 h7_0f1; replace h7_0c1 := hh.cell h7_0c1; replace h7_0b := h7_0b.ext hh; have h7_0z2 := Nat.lt_of_lt_of_le h7_0z hh.size; have h7_0m2 := Nat.ne_of_lt h7_0z2; have h7_0n2 := Nat.ne_of_gt h7_0z2; clear hh)); (try (have hh : Ext w8 w10 := ?g1010; (case g1010 => ((repeat' (first | with_reducible exact Ext.refl _ | with_reducible assumption | with_reducible apply Ext.alloc_r | with_reducible apply Ext.drew_r | with_reducible apply Ext.drewN_r | with_reducible refine Ext.trans ?_ ‹Ext _ _›)); done)); replace h8_0f0 := hh.frozen h8_0c0 h8_0f0; replace h8_0c0 := hh.cell h8_0c0; replace h8_0f1 := hh.frozen h8_0c1 h8_0f1; replace h8_0c1 := hh.cell h8_0c1; replace h8_0b := h8_0b.ext hh; have h8_0z2 := Nat.lt_of_lt_of_le h8_0z hh.size; have h8_0m2 := Nat.ne_of_lt h8_0z2; have h8_0n2 := Nat.ne_of_gt h8_0z2; clear hh)); (try (have hh : Ext w9 w10 := ?g1020; (case g1020 => ((repeat' (first | with_reducible exact Ext.refl _ | with_reducible assumption | with_reducible apply Ext.alloc_r | with_reducible apply Ext.drew_r | with_reducible apply Ext.drewN_r | with_reducible refine Ext.trans ?_ ‹Ext _ _›)); done)); replace h9_0f0 := hh.frozen h9_0c0 h9_0f0; replace h9_0c0 := hh.cell h9_0c0; replace h9_0f1 := hh.frozen h9_0c1 h9_0f1; replace h9_0c1 := hh.cell h9_0c1; replace h9_0b := h9_0b.ext hh; have h9_0z2 := Nat.lt_of_lt_of_le h9_0z hh.size; have h9_0m2 := Nat.ne_of_lt h9_0z2; have h9_0n2 := Nat.ne_of_gt h9_0z2; clear hh)))
                  | (go_at_call_of 28 (#[Value.int IntKind.i64 K]); have hgd := pr; clear hgd; refine (of_z (by omega)).mono ?_; rintro e w9 ⟨skk, Akk, ckk, Lkk, rfl, kk, x9⟩; (have zs9 := x9.size); (try simp only [World.size_alloc] at zs9); (try ((with_reducible have h9_0 := box_ext (vs := #[.bool false, .slice none 0 0]) x9); have h9_0c0 := (h9_0.1 0 (.bool false) rfl).1; have h9_0f0 := (h9_0.1 0 (.bool false) rfl).2; have h9_0c1 := (h9_0.1 1 (.slice none 0 0) rfl).1; have h9_0f1 := (h9_0.1 1 (.slice none 0 0) rfl).2; have h9_0b := h9_0.2.1; have h9_0z := h9_0.2.2; (try simp only [World.size_alloc] at h9_0b h9_0z h9_0c0 h9_0f0 h9_0c1 h9_0f1); have h9_0m := Nat.ne_of_lt h9_0z; have h9_0n := Nat.ne_of_gt h9_0z; clear h9_0)))
                  | (go_at_call 27; have hgd := tt; clear hgd; refine (HMU.out _ _ _ _ _ (by repeat' (first | with_reducible exact Ext.refl _ | with_reducible assumption | with_reducible apply Ext.alloc_r | with_reducible apply Ext.drew_r | with_reducible apply Ext.drewN_r | with_reducible refine Ext.trans ?_ ‹Ext _ _›)) (tt.zv.ext (by repeat' (first | with_reducible exact Ext.refl _ | with_reducible assumption | with_reducible apply Ext.alloc_r | with_reducible apply Ext.drew_r | with_reducible apply Ext.drewN_r | with_reducible refine Ext.trans ?_ ‹Ext _ _›)))).mono ?_; rintro e w8 ⟨spr, Apr, cpr, Lpr, rfl, pr, x8⟩; (have zs8 := x8.size); (try simp only [World.size_alloc] at zs8); (try ((with_reducible have h8_0 := box_ext (vs := #[.bool false, .slice none 0 0]) x8); have h8_0c0 := (h8_0.1 0 (.bool false) rfl).1; have h8_0f0 := (h8_0.1 0 (.bool false) rfl).2; have h8_0c1 := (h8_0.1 1 (.slice none 0 0) rfl).1; have h8_0f1 := (h8_0.1 1 (.slice none 0 0) rfl).2; have h8_0b := h8_0.2.1; have h8_0z := h8_0.2.2; (try simp only [World.size_alloc] at h8_0b h8_0z h8_0c0 h8_0f0 h8_0c1 h8_0f1); have h8_0m := Nat.ne_of_lt h8_0z; have h8_0n := Nat.ne_of_gt h8_0z; clear h8_0)))
                  | (go_at_call_of 28 (#[Value.int IntKind.i64 10]); refine (of_z (by omega)).mono ?_; rintro e w7 ⟨stt, Att, ctt, Ltt, rfl, tt, x7⟩; (have zs7 := x7.size); (try simp only [World.size_alloc, World.size_drew] at zs7); (try ((with_reducible have h7_0 := box_ext (vs := #[.bool false, .slice none 0 0]) ((Ext.drew _).trans x7)); have h7_0c0 := (h7_0.1 0 (.bool false) rfl).1; have h7_0f0 := (h7_0.1 0 (.bool false) rfl).2; have h7_0c1 := (h7_0.1 1 (.slice none 0 0) rfl).1; have h7_0f1 := (h7_0.1 1 (.slice none 0 0) rfl).2; have h7_0b := h7_0.2.1; have h7_0z := h7_0.2.2; (try simp only [World.size_alloc] at h7_0b h7_0z h7_0c0 h7_0f0 h7_0c1 h7_0f1); have h7_0m := Nat.ne_of_lt h7_0z; have h7_0n := Nat.ne_of_gt h7_0z; clear h7_0))))
            | fail
            all_goals (clear HK; go_wp2_with fail; go_meet)
            all_goals
              refine PutZ.mk (sb := ssm) (A := Asm) (c := csm) (L := Lsm) ?_ ((sm.mono (Ext.size (by repeat' (first | with_reducible exact Ext.refl _ | with_reducible assumption | with_reducible apply Ext.alloc_r | with_reducible apply Ext.drew_r | with_reducible apply Ext.drewN_r | with_reducible refine Ext.trans ?_ ‹Ext _ _›)))).kept ?_) ?_
              · refine Bx.mk2 ?_ ?_
                · go_simp
                · go_simp
              · (repeat' (first | with_reducible exact Kept.refl _ | with_reducible apply Kept.alloc_r | with_reducible apply Kept.drew_r | (with_reducible apply Kept.setZ; (case hb => ((repeat' (first | with_reducible assumption | with_reducible apply IsBox.set_ | (with_reducible apply IsBox.new; (first | (with_reducible rfl) | simp); done) | with_reducible apply IsBox.alloc_ | with_reducible apply IsBox.drew_ | with_reducible refine IsBox.ext ?_ ‹Ext _ _›)); done))) | (with_reducible apply Kept.setI; (case hb => ((repeat' (first | with_reducible assumption | with_reducible apply IsBox.set_ | (with_reducible apply IsBox.new; (first | (with_reducible rfl) | simp); done) | with_reducible apply IsBox.alloc_ | with_reducible apply IsBox.drew_ | with_reducible refine IsBox.ext ?_ ‹Ext _ _›)); done))) | with_reducible refine Kept.trans ?_ (Ext.kept ‹Ext _ _›)))
              · (repeat' (first | with_reducible exact Ext.refl _ | with_reducible assumption | with_reducible apply Ext.alloc_r | with_reducible apply Ext.drew_r | with_reducible apply Ext.drewN_r | with_reducible apply Ext.set_r | with_reducible exact Nat.le_refl _ | omega | with_reducible refine Ext.trans ?_ ‹Ext _ _›))
          case rest =>
            have hcw := hcut
            have hc_0 := hcw
            obtain ⟨sv, Av, cv, Lv, ⟨bkv, rfl, ccv⟩, v, xxv⟩ := hc_0
            have x11 := xxv
            clear xxv
            replace e0_0 := x11.cell e0_0
            replace e0_1 := x11.cell e0_1
            replace y_0 := x11.cell y_0
            replace y_1 := x11.cell y_1
            have v_0 := ccv 0 (.bool sv) rfl
            have v_1 := ccv 1 (.slice Av Lv cv) rfl
            clear ccv
            obtain ⟨D, hD⟩ : ∃ D, D = (fmtL 10 (z1.natAbs : Int)).length := ⟨_, rfl⟩
            have hD2 : D ≤ 2000 := by
              have h5 := fmt_le (b := 10) (by omega) (z1.natAbs : Int)
              rw [← hD, Int.natAbs_natCast] at h5
              omega
            have hwD : IntKind.i64.wrap ((D : Int) + 1) = (D : Int) + 1 := IntWalk.i64_in _ (by omega)
            have HD1 : Hid (∀ w', Ext w w' → Calls Try.prog 15 #[.agg #[.bool s1, .slice A1 L1 c1]] w' fun e w'' => e = .returned (.int .i64 (D : Int)) ∧ Ext w' w'') := fun w' hx => by
              rw [hD]
              exact Digits_z (h1.ext hx) (by omega)
            have HD2 : Hid (∀ w', ZV w' sy Ay cy Ly Y → Calls Try.prog 15 #[.agg #[.bool sy, .slice Ay Ly cy]] w' fun e w'' => e = .returned (.int .i64 ((D : Int) + 1)) ∧ Ext w' w'') := fun w' h => by
              have h5 := Digits_z h (by omega)
              rw [HLE.out, ← hD] at h5
              exact h5
            clear hD
            go_wp2_with fail
            have HK : Hid (∀ w', Ext wc w' → Ext wc w' ∧ w'.cell? ⟨w.heap.size, 0, none⟩ = some (.bool s1) ∧ w'.cell? ⟨w.heap.size, 1, none⟩ = some (.slice A1 L1 c1) ∧ w'.cell? ⟨bky, 0, none⟩ = some (.bool sy) ∧ w'.cell? ⟨bky, 1, none⟩ = some (.slice Ay Ly cy) ∧ w'.cell? ⟨bkv, 0, none⟩ = some (.bool sv) ∧ w'.cell? ⟨bkv, 1, none⟩ = some (.slice Av Lv cv)) := fun w' hk => ⟨hk, hk.cell e0_0, hk.cell e0_1, hk.cell y_0, hk.cell y_1, hk.cell v_0, hk.cell v_1⟩
            first
            | go_region_held3 (fun w' => Ext wc w' ∧ w'.cell? ⟨w.heap.size, 0, none⟩ = some (.bool s1) ∧ w'.cell? ⟨w.heap.size, 1, none⟩ = some (.slice A1 L1 c1) ∧ w'.cell? ⟨bky, 0, none⟩ = some (.bool sy) ∧ w'.cell? ⟨bky, 1, none⟩ = some (.slice Ay Ly cy) ∧ w'.cell? ⟨bkv, 0, none⟩ = some (.bool sv) ∧ w'.cell? ⟨bkv, 1, none⟩ = some (.slice Av Lv cv))
                ((refine HK.out _ ?_; (repeat' (first | with_reducible exact Ext.refl _ | with_reducible assumption | with_reducible apply Ext.alloc_r | with_reducible apply Ext.drew_r | with_reducible apply Ext.drewN_r | with_reducible refine Ext.trans ?_ ‹Ext _ _›))))
                (first
                  | (go_at_call_of 15 (#[Value.agg #[.bool s1, .slice A1 L1 c1]]); refine (HD1.out _ (by repeat' (first | with_reducible exact Ext.refl _ | with_reducible assumption | with_reducible apply Ext.alloc_r | with_reducible apply Ext.drew_r | with_reducible apply Ext.drewN_r | with_reducible refine Ext.trans ?_ ‹Ext _ _›))).mono ?_; rintro e w14 ⟨rfl, x14⟩)
                  | (go_at_call_of 15 (#[Value.agg #[.bool sy, .slice Ay Ly cy]]); refine (HD2.out _ (y.zv.ext (by repeat' (first | with_reducible exact Ext.refl _ | with_reducible assumption | with_reducible apply Ext.alloc_r | with_reducible apply Ext.drew_r | with_reducible apply Ext.drewN_r | with_reducible refine Ext.trans ?_ ‹Ext _ _›)))).mono ?_; rintro e w13 ⟨rfl, x13⟩)
                  | (go_at_call 24; refine (same_yes (y.zv.ext (by repeat' (first | with_reducible exact Ext.refl _ | with_reducible assumption | with_reducible apply Ext.alloc_r | with_reducible apply Ext.drew_r | with_reducible apply Ext.drewN_r | with_reducible refine Ext.trans ?_ ‹Ext _ _›))) (v.zv.ext (by repeat' (first | with_reducible exact Ext.refl _ | with_reducible assumption | with_reducible apply Ext.alloc_r | with_reducible apply Ext.drew_r | with_reducible apply Ext.drewN_r | with_reducible refine Ext.trans ?_ ‹Ext _ _›))) rfl).mono ?_; rintro e w12 ⟨rfl, x12⟩))
            | fail
            clear HK
            have xh : Ext wc w14 := (by repeat' (first | with_reducible exact Ext.refl _ | with_reducible assumption | with_reducible apply Ext.alloc_r | with_reducible apply Ext.drew_r | with_reducible apply Ext.drewN_r | with_reducible refine Ext.trans ?_ ‹Ext _ _›))
            replace e0_0 := xh.cell e0_0
            replace e0_1 := xh.cell e0_1
            replace y_0 := xh.cell y_0
            replace y_1 := xh.cell y_1
            replace v_0 := xh.cell v_0
            replace v_1 := xh.cell v_1
            clear xh
            go_wp2_with fail
            go_ret
            exact ⟨rfl, (by repeat' (first | with_reducible exact Ext.refl _ | with_reducible assumption | with_reducible apply Ext.alloc_r | with_reducible apply Ext.drew_r | with_reducible apply Ext.drewN_r | with_reducible refine Ext.trans ?_ ‹Ext _ _›))⟩
        · have hs1 : ¬ z1.sign < 0 := by omega
          obtain ⟨K, hK⟩ : ∃ K : Int, K = (k : Int) := ⟨_, rfl⟩
          have hYK : z1 * 10 + K = Y := by rw [HY.out, hK, if_neg hneg]
          have hkb : -9 ≤ K ∧ K ≤ 9 := by omega
          have hK' := hK.symm
          have HMU : Hid (∀ w' s2 A2 c2 L2, Ext w w' → ZV w' s2 A2 c2 L2 10 → Calls Try.prog 27 #[.agg #[.bool s1, .slice A1 L1 c1], .agg #[.bool s2, .slice A2 L2 c2]] w' (RetZ w' (z1 * 10))) := fun w' s2 A2 c2 L2 hx h2 => by
            have h9 : dl (10 : Int).natAbs ≤ 1 := dl_le (by show 10 < _; unfold B32; omega)
            exact mul_z (h1.ext hx) h2 (by omega) (by omega)
          have HAD : Hid (∀ w' s2 A2 c2 L2 s3 A3 c3 L3, ZV w' s2 A2 c2 L2 (z1 * 10) → ZV w' s3 A3 c3 L3 K → Calls Try.prog 26 #[.agg #[.bool s2, .slice A2 L2 c2], .agg #[.bool s3, .slice A3 L3 c3]] w' (RetZ w' Y)) := fun w' s2 A2 c2 L2 s3 A3 c3 L3 h2 h3 => by
            have h9 : dl (10 : Int).natAbs ≤ 1 := dl_le (by show 10 < _; unfold B32; omega)
            have h10 : dl K.natAbs ≤ 1 := dl_le (by unfold B32; omega)
            have h11 := dlz_mul z1 10
            have := add_z h2 h3 (by omega) (by omega)
            rwa [hYK] at this
          clear hsc hneg hK hYK
          generalize z1.sign = sg at *
          go_wp2_with fail
          go_cut [8] (fun s8 wx => PutZ w6 wx Y s8)
          case first =>
            have HK : Hid (∀ w', Ext w6 w' → Ext w6 w' ∧ w'.cell? ⟨w.heap.size, 0, none⟩ = some (.bool s1) ∧ w'.cell? ⟨w.heap.size, 1, none⟩ = some (.slice A1 L1 c1) ∧ w'.cell? ⟨bky, 0, none⟩ = some (.bool sy) ∧ w'.cell? ⟨bky, 1, none⟩ = some (.slice Ay Ly cy)) := fun w' hk => ⟨hk, hk.cell e0_0, hk.cell e0_1, hk.cell y_0, hk.cell y_1⟩
            first
            | go_region_held3 (fun w' => Ext w6 w' ∧ w'.cell? ⟨w.heap.size, 0, none⟩ = some (.bool s1) ∧ w'.cell? ⟨w.heap.size, 1, none⟩ = some (.slice A1 L1 c1) ∧ w'.cell? ⟨bky, 0, none⟩ = some (.bool sy) ∧ w'.cell? ⟨bky, 1, none⟩ = some (.slice Ay Ly cy))
                ((refine HK.out _ ?_; (repeat' (first | with_reducible exact Ext.refl _ | with_reducible assumption | with_reducible apply Ext.alloc_r | with_reducible apply Ext.drew_r | with_reducible apply Ext.drewN_r | with_reducible apply Ext.set_r | with_reducible exact Nat.le_refl _ | omega | with_reducible refine Ext.trans ?_ ‹Ext _ _›))))
                (first
                  | (go_at_call 26; have hgd := kk; clear hgd; refine (HAD.out _ _ _ _ _ _ _ _ _ (pr.zv.ext (by repeat' (first | with_reducible exact Ext.refl _ | with_reducible assumption | with_reducible apply Ext.alloc_r | with_reducible apply Ext.drew_r | with_reducible apply Ext.drewN_r | with_reducible refine Ext.trans ?_ ‹Ext _ _›))) (kk.zv.ext (by repeat' (first | with_reducible exact Ext.refl _ | with_reducible assumption | with_reducible apply Ext.alloc_r | with_reducible apply Ext.drew_r | with_reducible apply Ext.drewN_r | with_reducible refine Ext.trans ?_ ‹Ext _ _›)))).mono ?_; rintro e w10 ⟨ssm, Asm, csm, Lsm, rfl, sm, x10⟩; (have zs10 := x10.size); (try simp only [World.size_alloc] at zs10); (try ((with_reducible have h10_0 := box_ext (vs := #[.bool false, .slice none 0 0]) x10); have h10_0c0 := (h10_0.1 0 (.bool false) rfl).1; have h10_0f0 := (h10_0.1 0 (.bool false) rfl).2; have h10_0c1 := (h10_0.1 1 (.slice none 0 0) rfl).1; have h10_0f1 := (h10_0.1 1 (.slice none 0 0) rfl).2; have h10_0b := h10_0.2.1; have h10_0z := h10_0.2.2; (try simp only [World.size_alloc] at h10_0b h10_0z h10_0c0 h10_0f0 h10_0c1 h10_0f1); have h10_0m := Nat.ne_of_lt h10_0z; have h10_0n := Nat.ne_of_gt h10_0z; clear h10_0)); (try (have hh : Ext w7 w10 := ?g1000; (case g1000 => ((repeat' (first | with_reducible exact Ext.refl _ | with_reducible assumption | with_reducible apply Ext.alloc_r | with_reducible apply Ext.drew_r | with_reducible apply Ext.drewN_r | with_reducible refine Ext.trans ?_ ‹Ext _ _›)); done)); replace h7_0f0 := hh.frozen h7_0c0 h7_0f0; replace h7_0c0 := hh.cell h7_0c0; replace h7_0f1 := hh.frozen h7_0c1 h7_0f1; replace h7_0c1 := hh.cell h7_0c1; replace h7_0b := h7_0b.ext hh; have h7_0z2 := Nat.lt_of_lt_of_le h7_0z hh.size; have h7_0m2 := Nat.ne_of_lt h7_0z2; have h7_0n2 := Nat.ne_of_gt h7_0z2; clear hh)); (try (have hh : Ext w8 w10 := ?g1010; (case g1010 => ((repeat' (first | with_reducible exact Ext.refl _ | with_reducible assumption | with_reducible apply Ext.alloc_r | with_reducible apply Ext.drew_r | with_reducible apply Ext.drewN_r | with_reducible refine Ext.trans ?_ ‹Ext _ _›)); done)); replace h8_0f0 := hh.frozen h8_0c0 h8_0f0; replace h8_0c0 := hh.cell h8_0c0; replace h8_0f1 := hh.frozen h8_0c1 h8_0f1; replace h8_0c1 := hh.cell h8_0c1; replace h8_0b := h8_0b.ext hh; have h8_0z2 := Nat.lt_of_lt_of_le h8_0z hh.size; have h8_0m2 := Nat.ne_of_lt h8_0z2; have h8_0n2 := Nat.ne_of_gt h8_0z2; clear hh)); (try (have hh : Ext w9 w10 := ?g1020; (case g1020 => ((repeat' (first | with_reducible exact Ext.refl _ | with_reducible assumption | with_reducible apply Ext.alloc_r | with_reducible apply Ext.drew_r | with_reducible apply Ext.drewN_r | with_reducible refine Ext.trans ?_ ‹Ext _ _›)); done)); replace h9_0f0 := hh.frozen h9_0c0 h9_0f0; replace h9_0c0 := hh.cell h9_0c0; replace h9_0f1 := hh.frozen h9_0c1 h9_0f1; replace h9_0c1 := hh.cell h9_0c1; replace h9_0b := h9_0b.ext hh; have h9_0z2 := Nat.lt_of_lt_of_le h9_0z hh.size; have h9_0m2 := Nat.ne_of_lt h9_0z2; have h9_0n2 := Nat.ne_of_gt h9_0z2; clear hh)))
                  | (go_at_call_of 28 (#[Value.int IntKind.i64 K]); have hgd := pr; clear hgd; refine (of_z (by omega)).mono ?_; rintro e w9 ⟨skk, Akk, ckk, Lkk, rfl, kk, x9⟩; (have zs9 := x9.size); (try simp only [World.size_alloc] at zs9); (try ((with_reducible have h9_0 := box_ext (vs := #[.bool false, .slice none 0 0]) x9); have h9_0c0 := (h9_0.1 0 (.bool false) rfl).1; have h9_0f0 := (h9_0.1 0 (.bool false) rfl).2; have h9_0c1 := (h9_0.1 1 (.slice none 0 0) rfl).1; have h9_0f1 := (h9_0.1 1 (.slice none 0 0) rfl).2; have h9_0b := h9_0.2.1; have h9_0z := h9_0.2.2; (try simp only [World.size_alloc] at h9_0b h9_0z h9_0c0 h9_0f0 h9_0c1 h9_0f1); have h9_0m := Nat.ne_of_lt h9_0z; have h9_0n := Nat.ne_of_gt h9_0z; clear h9_0)))
                  | (go_at_call 27; have hgd := tt; clear hgd; refine (HMU.out _ _ _ _ _ (by repeat' (first | with_reducible exact Ext.refl _ | with_reducible assumption | with_reducible apply Ext.alloc_r | with_reducible apply Ext.drew_r | with_reducible apply Ext.drewN_r | with_reducible refine Ext.trans ?_ ‹Ext _ _›)) (tt.zv.ext (by repeat' (first | with_reducible exact Ext.refl _ | with_reducible assumption | with_reducible apply Ext.alloc_r | with_reducible apply Ext.drew_r | with_reducible apply Ext.drewN_r | with_reducible refine Ext.trans ?_ ‹Ext _ _›)))).mono ?_; rintro e w8 ⟨spr, Apr, cpr, Lpr, rfl, pr, x8⟩; (have zs8 := x8.size); (try simp only [World.size_alloc] at zs8); (try ((with_reducible have h8_0 := box_ext (vs := #[.bool false, .slice none 0 0]) x8); have h8_0c0 := (h8_0.1 0 (.bool false) rfl).1; have h8_0f0 := (h8_0.1 0 (.bool false) rfl).2; have h8_0c1 := (h8_0.1 1 (.slice none 0 0) rfl).1; have h8_0f1 := (h8_0.1 1 (.slice none 0 0) rfl).2; have h8_0b := h8_0.2.1; have h8_0z := h8_0.2.2; (try simp only [World.size_alloc] at h8_0b h8_0z h8_0c0 h8_0f0 h8_0c1 h8_0f1); have h8_0m := Nat.ne_of_lt h8_0z; have h8_0n := Nat.ne_of_gt h8_0z; clear h8_0)))
                  | (go_at_call_of 28 (#[Value.int IntKind.i64 10]); refine (of_z (by omega)).mono ?_; rintro e w7 ⟨stt, Att, ctt, Ltt, rfl, tt, x7⟩; (have zs7 := x7.size); (try simp only [World.size_alloc, World.size_drew] at zs7); (try ((with_reducible have h7_0 := box_ext (vs := #[.bool false, .slice none 0 0]) ((Ext.drew _).trans x7)); have h7_0c0 := (h7_0.1 0 (.bool false) rfl).1; have h7_0f0 := (h7_0.1 0 (.bool false) rfl).2; have h7_0c1 := (h7_0.1 1 (.slice none 0 0) rfl).1; have h7_0f1 := (h7_0.1 1 (.slice none 0 0) rfl).2; have h7_0b := h7_0.2.1; have h7_0z := h7_0.2.2; (try simp only [World.size_alloc] at h7_0b h7_0z h7_0c0 h7_0f0 h7_0c1 h7_0f1); have h7_0m := Nat.ne_of_lt h7_0z; have h7_0n := Nat.ne_of_gt h7_0z; clear h7_0))))
            | fail
            all_goals (clear HK; go_wp2_with fail; go_meet)
            all_goals
              refine PutZ.mk (sb := ssm) (A := Asm) (c := csm) (L := Lsm) ?_ ((sm.mono (Ext.size (by repeat' (first | with_reducible exact Ext.refl _ | with_reducible assumption | with_reducible apply Ext.alloc_r | with_reducible apply Ext.drew_r | with_reducible apply Ext.drewN_r | with_reducible refine Ext.trans ?_ ‹Ext _ _›)))).kept ?_) ?_
              · refine Bx.mk2 ?_ ?_
                · go_simp
                · go_simp
              · (repeat' (first | with_reducible exact Kept.refl _ | with_reducible apply Kept.alloc_r | with_reducible apply Kept.drew_r | (with_reducible apply Kept.setZ; (case hb => ((repeat' (first | with_reducible assumption | with_reducible apply IsBox.set_ | (with_reducible apply IsBox.new; (first | (with_reducible rfl) | simp); done) | with_reducible apply IsBox.alloc_ | with_reducible apply IsBox.drew_ | with_reducible refine IsBox.ext ?_ ‹Ext _ _›)); done))) | (with_reducible apply Kept.setI; (case hb => ((repeat' (first | with_reducible assumption | with_reducible apply IsBox.set_ | (with_reducible apply IsBox.new; (first | (with_reducible rfl) | simp); done) | with_reducible apply IsBox.alloc_ | with_reducible apply IsBox.drew_ | with_reducible refine IsBox.ext ?_ ‹Ext _ _›)); done))) | with_reducible refine Kept.trans ?_ (Ext.kept ‹Ext _ _›)))
              · (repeat' (first | with_reducible exact Ext.refl _ | with_reducible assumption | with_reducible apply Ext.alloc_r | with_reducible apply Ext.drew_r | with_reducible apply Ext.drewN_r | with_reducible apply Ext.set_r | with_reducible exact Nat.le_refl _ | omega | with_reducible refine Ext.trans ?_ ‹Ext _ _›))
          case rest =>
            have hcw := hcut
            have hc_0 := hcw
            obtain ⟨sv, Av, cv, Lv, ⟨bkv, rfl, ccv⟩, v, xxv⟩ := hc_0
            have x11 := xxv
            clear xxv
            replace e0_0 := x11.cell e0_0
            replace e0_1 := x11.cell e0_1
            replace y_0 := x11.cell y_0
            replace y_1 := x11.cell y_1
            have v_0 := ccv 0 (.bool sv) rfl
            have v_1 := ccv 1 (.slice Av Lv cv) rfl
            clear ccv
            obtain ⟨D, hD⟩ : ∃ D, D = (fmtL 10 (z1.natAbs : Int)).length := ⟨_, rfl⟩
            have hD2 : D ≤ 2000 := by
              have h5 := fmt_le (b := 10) (by omega) (z1.natAbs : Int)
              rw [← hD, Int.natAbs_natCast] at h5
              omega
            have hwD : IntKind.i64.wrap ((D : Int) + 1) = (D : Int) + 1 := IntWalk.i64_in _ (by omega)
            have HD1 : Hid (∀ w', Ext w w' → Calls Try.prog 15 #[.agg #[.bool s1, .slice A1 L1 c1]] w' fun e w'' => e = .returned (.int .i64 (D : Int)) ∧ Ext w' w'') := fun w' hx => by
              rw [hD]
              exact Digits_z (h1.ext hx) (by omega)
            have HD2 : Hid (∀ w', ZV w' sy Ay cy Ly Y → Calls Try.prog 15 #[.agg #[.bool sy, .slice Ay Ly cy]] w' fun e w'' => e = .returned (.int .i64 ((D : Int) + 1)) ∧ Ext w' w'') := fun w' h => by
              have h5 := Digits_z h (by omega)
              rw [HLE.out, ← hD] at h5
              exact h5
            clear hD
            go_wp2_with fail
            have HK : Hid (∀ w', Ext wc w' → Ext wc w' ∧ w'.cell? ⟨w.heap.size, 0, none⟩ = some (.bool s1) ∧ w'.cell? ⟨w.heap.size, 1, none⟩ = some (.slice A1 L1 c1) ∧ w'.cell? ⟨bky, 0, none⟩ = some (.bool sy) ∧ w'.cell? ⟨bky, 1, none⟩ = some (.slice Ay Ly cy) ∧ w'.cell? ⟨bkv, 0, none⟩ = some (.bool sv) ∧ w'.cell? ⟨bkv, 1, none⟩ = some (.slice Av Lv cv)) := fun w' hk => ⟨hk, hk.cell e0_0, hk.cell e0_1, hk.cell y_0, hk.cell y_1, hk.cell v_0, hk.cell v_1⟩
            first
            | go_region_held3 (fun w' => Ext wc w' ∧ w'.cell? ⟨w.heap.size, 0, none⟩ = some (.bool s1) ∧ w'.cell? ⟨w.heap.size, 1, none⟩ = some (.slice A1 L1 c1) ∧ w'.cell? ⟨bky, 0, none⟩ = some (.bool sy) ∧ w'.cell? ⟨bky, 1, none⟩ = some (.slice Ay Ly cy) ∧ w'.cell? ⟨bkv, 0, none⟩ = some (.bool sv) ∧ w'.cell? ⟨bkv, 1, none⟩ = some (.slice Av Lv cv))
                ((refine HK.out _ ?_; (repeat' (first | with_reducible exact Ext.refl _ | with_reducible assumption | with_reducible apply Ext.alloc_r | with_reducible apply Ext.drew_r | with_reducible apply Ext.drewN_r | with_reducible refine Ext.trans ?_ ‹Ext _ _›))))
                (first
                  | (go_at_call_of 15 (#[Value.agg #[.bool s1, .slice A1 L1 c1]]); refine (HD1.out _ (by repeat' (first | with_reducible exact Ext.refl _ | with_reducible assumption | with_reducible apply Ext.alloc_r | with_reducible apply Ext.drew_r | with_reducible apply Ext.drewN_r | with_reducible refine Ext.trans ?_ ‹Ext _ _›))).mono ?_; rintro e w14 ⟨rfl, x14⟩)
                  | (go_at_call_of 15 (#[Value.agg #[.bool sy, .slice Ay Ly cy]]); refine (HD2.out _ (y.zv.ext (by repeat' (first | with_reducible exact Ext.refl _ | with_reducible assumption | with_reducible apply Ext.alloc_r | with_reducible apply Ext.drew_r | with_reducible apply Ext.drewN_r | with_reducible refine Ext.trans ?_ ‹Ext _ _›)))).mono ?_; rintro e w13 ⟨rfl, x13⟩)
                  | (go_at_call 24; refine (same_yes (y.zv.ext (by repeat' (first | with_reducible exact Ext.refl _ | with_reducible assumption | with_reducible apply Ext.alloc_r | with_reducible apply Ext.drew_r | with_reducible apply Ext.drewN_r | with_reducible refine Ext.trans ?_ ‹Ext _ _›))) (v.zv.ext (by repeat' (first | with_reducible exact Ext.refl _ | with_reducible assumption | with_reducible apply Ext.alloc_r | with_reducible apply Ext.drew_r | with_reducible apply Ext.drewN_r | with_reducible refine Ext.trans ?_ ‹Ext _ _›))) rfl).mono ?_; rintro e w12 ⟨rfl, x12⟩))
            | fail
            clear HK
            have xh : Ext wc w14 := (by repeat' (first | with_reducible exact Ext.refl _ | with_reducible assumption | with_reducible apply Ext.alloc_r | with_reducible apply Ext.drew_r | with_reducible apply Ext.drewN_r | with_reducible refine Ext.trans ?_ ‹Ext _ _›))
            replace e0_0 := xh.cell e0_0
            replace e0_1 := xh.cell e0_1
            replace y_0 := xh.cell y_0
            replace y_1 := xh.cell y_1
            replace v_0 := xh.cell v_0
            replace v_1 := xh.cell v_1
            clear xh
            go_wp2_with fail
            go_ret
            exact ⟨rfl, (by repeat' (first | with_reducible exact Ext.refl _ | with_reducible assumption | with_reducible apply Ext.alloc_r | with_reducible apply Ext.drew_r | with_reducible apply Ext.drewN_r | with_reducible refine Ext.trans ?_ ‹Ext _ _›))⟩
  · have hf' : 30 < L1 := by omega
    clear hf
    go_enter Try.func10, Try.ntmps10
    go_wp2_with fail
    obtain ⟨w0, hw0⟩ : ∃ z : World, z = (w.alloc (.cells #[.bool s1, .slice A1 L1 c1] 25)) := ⟨_, rfl⟩
    rw [← hw0]
    have b0 := box_at w #[.bool s1, .slice A1 L1 c1] 25
    have hsz : w0.heap.size = w.heap.size + 1 := by rw [hw0]; simp
    rw [← hw0] at b0
    have y0 : Ext w w0 := by rw [hw0]; exact Ext.alloc _ _
    have x0 : Ext w w0 := y0
    have e0_0 := b0.1 0 (.bool s1) rfl
    have e0_1 := b0.1 1 (.slice A1 L1 c1) rfl
    clear hw0 b0 y0
    go_wp2_with fail
    refine (lawake4 _).mono ?_
    rintro e w1 ⟨rfl, x1⟩
    replace e0_0 := x1.cell e0_0
    replace e0_1 := x1.cell e0_1
    go_wp2_with fail
    refine (lawake4 _).mono ?_
    rintro e w2 ⟨rfl, x2⟩
    replace e0_0 := x2.cell e0_0
    replace e0_1 := x2.cell e0_1
    go_wp2_with fail
    go_ret
    exact ⟨rfl, (by repeat' (first | with_reducible exact Ext.refl _ | with_reducible assumption | with_reducible apply Ext.alloc_r | with_reducible apply Ext.drew_r | with_reducible apply Ext.drewN_r | with_reducible refine Ext.trans ?_ ‹Ext _ _›))⟩
end Go.Proofs.Ytjhknnioefipmaa
