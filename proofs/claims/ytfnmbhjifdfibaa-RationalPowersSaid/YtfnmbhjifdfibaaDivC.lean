/- Contracts of package division: Gcd. -/
import Derived.Test.YtfnmbhjifdfibaaDivB
import Derived.Test.YtfnmbhjifdfibaaIntB
import Derived.Test.YtfnmbhjifdfibaaKept
import Derived.Deep.LoopGhost
import Derived.Deep.QuietTactic
import Derived.BigQuiet
namespace Go.Proofs.Ytfnmbhjifdfibaa
open Go.RowKit
set_option maxHeartbeats 4000000 in
set_option maxRecDepth 100000 in
theorem gcd_z {w : World} {s1 s2 : Bool} {A1 A2 : Option Addr} {c1 c2 L1 L2 : Nat} {x y : Int} (h1 : ZV w s1 A1 c1 L1 x) (h2 : ZV w s2 A2 c2 L2 y) (hs1 : dl x.natAbs ≤ 1000000) (hs2 : dl y.natAbs ≤ 1000000) :
    Calls Try.prog 92 #[.agg #[.bool s1, .slice A1 L1 c1], .agg #[.bool s2, .slice A2 L2 c2]] w (RetZ w (Nat.gcd x.natAbs y.natAbs : Nat)) := by
  go_enter Try.func92, Try.ntmps92
  go_wp2_with fail
  obtain ⟨w0, hw0⟩ : ∃ z : World, z = (((w.alloc (.cells #[.bool s1, .slice A1 L1 c1] 25)).alloc (.cells #[.bool s2, .slice A2 L2 c2] 25)).alloc (.cells #[.bool false, .slice none 0 0] 25)) := ⟨_, rfl⟩
  rw [← hw0]
  have b0 := box_at w #[.bool s1, .slice A1 L1 c1] 25
  have b1 := box_at (w.alloc (.cells #[.bool s1, .slice A1 L1 c1] 25)) #[.bool s2, .slice A2 L2 c2] 25
  have b2 := box_at ((w.alloc (.cells #[.bool s1, .slice A1 L1 c1] 25)).alloc (.cells #[.bool s2, .slice A2 L2 c2] 25)) #[.bool false, .slice none 0 0] 25
  have hsz : w0.heap.size = w.heap.size + 1 + 1 + 1 := by rw [hw0]; simp
  rw [← hw0] at b2
  have y2 : Ext ((w.alloc (.cells #[.bool s1, .slice A1 L1 c1] 25)).alloc (.cells #[.bool s2, .slice A2 L2 c2] 25)) w0 := by rw [hw0]; exact Ext.alloc _ _
  have y1 : Ext (w.alloc (.cells #[.bool s1, .slice A1 L1 c1] 25)) w0 := (Ext.alloc _ _).trans y2
  have y0 : Ext w w0 := (Ext.alloc _ _).trans y1
  have x0 : Ext w w0 := y0
  have e0_0 := y1.cell (b0.1 0 (.bool s1) rfl)
  have e0_1 := y1.cell (b0.1 1 (.slice A1 L1 c1) rfl)
  have e1_0 := y2.cell (b1.1 0 (.bool s2) rfl)
  have e1_1 := y2.cell (b1.1 1 (.slice A2 L2 c2) rfl)
  have q2_0 := b2.1 0 (.bool false) rfl
  have f2_0 := b2.2 0
  have q2_1 := b2.1 1 (.slice none 0 0) rfl
  have f2_1 := b2.2 1
  simp only [World.size_alloc] at e1_0 e1_1 q2_0 f2_0 q2_1 f2_1
  clear hw0 b0 b1 b2 y0 y1 y2
  clear hsz
  go_wp2_with fail
  have HK : Hid (∀ w', Ext w0 w' → Ext w0 w' ∧ w'.cell? ⟨w.heap.size, 0, none⟩ = some (.bool s1) ∧ w'.cell? ⟨w.heap.size, 1, none⟩ = some (.slice A1 L1 c1) ∧ w'.cell? ⟨w.heap.size + 1, 0, none⟩ = some (.bool s2) ∧ w'.cell? ⟨w.heap.size + 1, 1, none⟩ = some (.slice A2 L2 c2)) := fun w' hk => ⟨hk, hk.cell e0_0, hk.cell e0_1, hk.cell e1_0, hk.cell e1_1⟩
  first
  | go_region_held3 (fun w' => Ext w0 w' ∧ w'.cell? ⟨w.heap.size, 0, none⟩ = some (.bool s1) ∧ w'.cell? ⟨w.heap.size, 1, none⟩ = some (.slice A1 L1 c1) ∧ w'.cell? ⟨w.heap.size + 1, 0, none⟩ = some (.bool s2) ∧ w'.cell? ⟨w.heap.size + 1, 1, none⟩ = some (.slice A2 L2 c2))
      ((refine HK.out _ ?_; (repeat' (first | with_reducible exact Ext.refl _ | with_reducible assumption | with_reducible apply Ext.alloc_r | with_reducible apply Ext.drew_r | with_reducible apply Ext.drewN_r | with_reducible refine Ext.trans ?_ ‹Ext _ _›))))
      (first
        | (go_at_call_of 110 (#[Value.slice A2 L2 c2]); have hgd := p; clear hgd; refine (normal_v (h2.nv.ext (by repeat' (first | with_reducible exact Ext.refl _ | with_reducible assumption | with_reducible apply Ext.alloc_r | with_reducible apply Ext.drew_r | with_reducible apply Ext.drewN_r | with_reducible refine Ext.trans ?_ ‹Ext _ _›))) (by omega)).mono ?_; rintro e w2 ⟨Aq, cq, rfl, q, x2⟩)
        | (go_at_call_of 110 (#[Value.slice A1 L1 c1]); refine (normal_v (h1.nv.ext (by repeat' (first | with_reducible exact Ext.refl _ | with_reducible assumption | with_reducible apply Ext.alloc_r | with_reducible apply Ext.drew_r | with_reducible apply Ext.drewN_r | with_reducible refine Ext.trans ?_ ‹Ext _ _›))) (by omega)).mono ?_; rintro e w1 ⟨Ap, cp, rfl, p, x1⟩))
  | fail
  clear HK
  have xh : Ext w0 w2 := (by repeat' (first | with_reducible exact Ext.refl _ | with_reducible assumption | with_reducible apply Ext.alloc_r | with_reducible apply Ext.drew_r | with_reducible apply Ext.drewN_r | with_reducible refine Ext.trans ?_ ‹Ext _ _›))
  replace e0_0 := xh.cell e0_0
  replace e0_1 := xh.cell e0_1
  replace e1_0 := xh.cell e1_0
  replace e1_1 := xh.cell e1_1
  clear xh
  go_wp2_with fail
  have x0c : Ext w0 w2 := (by repeat' (first | with_reducible exact Ext.refl _ | with_reducible assumption | with_reducible apply Ext.alloc_r | with_reducible apply Ext.drew_r | with_reducible apply Ext.drewN_r | with_reducible refine Ext.trans ?_ ‹Ext _ _›))
  have xw : Ext w w2 := Ext.trans x0 x0c
  have t1 := x0c.cell q2_0
  have t2 := x0c.cell q2_1
  have p1 := x0c.frozen q2_0 f2_0
  have p2 := x0c.frozen q2_1 f2_1
  have HP := Lib.hid p
  have HQ := Lib.hid q
  clear p q
  go_loopg [5, 6] y.natAbs (fun kk xv yv wr => ∃ (X Y : Nat) (A5 : Option Addr) (c5 : Nat) (A6 : Option Addr) (c6 : Nat), xv = .slice A5 (digs B32 X).length c5 ∧ yv = .slice A6 (digs B32 Y).length c6 ∧ Hid (NV wr A5 c5 (digs B32 X).length X) ∧ Hid (NV wr A6 c6 (digs B32 Y).length Y) ∧ Hid (Nat.gcd X Y = Nat.gcd x.natAbs y.natAbs) ∧ dl X ≤ 1000000 ∧ dl Y ≤ 1000000 ∧ Hid (Y ≤ kk) ∧ Ext w2 wr)
  case atStart => exact ⟨x.natAbs, y.natAbs, Ap, cp, Aq, cq, rfl, rfl, NO.nv (HP.out.ext (by repeat' (first | with_reducible exact Ext.refl _ | with_reducible assumption | with_reducible apply Ext.alloc_r | with_reducible apply Ext.drew_r | with_reducible apply Ext.drewN_r | with_reducible refine Ext.trans ?_ ‹Ext _ _›))), NO.nv (HQ.out.ext (by repeat' (first | with_reducible exact Ext.refl _ | with_reducible assumption | with_reducible apply Ext.alloc_r | with_reducible apply Ext.drew_r | with_reducible apply Ext.drewN_r | with_reducible refine Ext.trans ?_ ‹Ext _ _›))), rfl, hs1, hs2, Nat.le_refl _, Ext.refl _⟩
  case round =>
    obtain ⟨X, Y, A5, c5, A6, c6, rfl, rfl, HX, HY, HG, hdx, hdy, HK, hx⟩ := hrel
    have d1 := hx.cell t1
    have d2 := hx.cell t2
    have g1 := hx.frozen t1 p1
    have g2 := hx.frozen t2 p2
    have hxx := xw.trans hx
    have hB := World.block_lt_of_cell? wr _ d1
    have HLX : Hid (dl X = (digs B32 X).length) := rfl
    have HLY : Hid (dl Y = (digs B32 Y).length) := rfl
    have HZY : Hid ((digs B32 Y).length = 0 → Y = 0) := fun h => (digs_eq_nil B32_two).1 (List.eq_nil_of_length_eq_zero h)
    have hlx : (digs B32 X).length ≤ 1000000 := hdx
    have hly : (digs B32 Y).length ≤ 1000000 := hdy
    have HDX := Lib.hid hdx
    have HDY := Lib.hid hdy
    clear hdx hdy
    generalize (digs B32 X).length = lx at *
    generalize (digs B32 Y).length = ly at *
    by_cases hbig : 2 < lx ∨ 2 < ly
    · by_cases hy0 : ly = 0
      · have hYz : Y = 0 := HZY.out hy0
        have h2 : 2 < lx := by omega
        have hG0 : Nat.gcd x.natAbs y.natAbs = X := by rw [← HG.out, hYz, Nat.gcd_zero_right]
        have HFR := Lib.hid (from_z (s := false) (x := (X : Int)) (w := wr) ⟨by rw [Int.natAbs_natCast]; exact HX.out, (fun h => by cases h), fun _ => Int.natCast_nonneg _⟩ (by rw [Int.natAbs_natCast]; have := HDX.out; omega))
        have HG0 := Lib.hid hG0
        clear hYz hG0 hbig
        subst hy0
        go_wp2_with fail
        refine HFR.out.mono ?_
        rintro e w9 ⟨sb, A9, c9, L9, rfl, hz, x9⟩
        have e1 := x9.cell d1
        have e2 := x9.cell d2
        have v1 := x9.frozen d1 g1
        have v2 := x9.frozen d2 g2
        obtain ⟨r5, r6, hz', hxx'⟩ := fin_z (by omega) hB (hxx.trans x9) hz e1 e2
        have HZ := Lib.hid hz'
        clear hz hz' 
        go_wp2_with fail
        refine bodyPost_ret (v := .agg #[.bool sb, .slice A9 L9 c9]) (by simp [results, Try.results92, go_sem, r5, r6]) rfl ?_
        show RetZ w _ _ _
        rw [HG0.out]
        exact ⟨_, _, _, _, rfl, HZ.out, hxx'⟩
      · have hyb : ((ly : Int) == 0) = false := by rw [beq_eq_false_iff_ne]; omega
        have hY0 : Y ≠ 0 := fun h => by have := HY.out.dl; rw [h] at HLY; have h5 := HLY.out; have h6 : dl 0 = 0 := rfl; omega
        have HDV := Lib.hid (divide_v HX.out HY.out hY0 (by have := HDX.out; omega) (by have := HDY.out; omega))
        have HLT : Hid (X % Y < Y) := Nat.mod_lt _ (by omega)
        have HG2 : Hid (Nat.gcd Y (X % Y) = Nat.gcd x.natAbs y.natAbs) := by
          show _ = _
          rw [← HG.out, Nat.gcd_comm Y, ← Nat.gcd_rec, Nat.gcd_comm]
        clear hY0
        by_cases h2 : 2 < lx
        · clear hbig
          go_wp2_with fail
          refine HDV.out.mono ?_
          rintro e w9 ⟨A7, c7, A8, c8, rfl, hq, hr, x9⟩
          have HR : Hid (NV w9 A8 c8 (digs B32 (X % Y)).length (X % Y)) := NO.nv hr
          have HY9 : Hid (NV w9 A6 c6 (digs B32 Y).length Y) := by
            show NV _ _ _ _ _
            rw [← show dl Y = (digs B32 Y).length from rfl, HLY.out]
            exact HY.out.ext x9
          have hx9 := hx.trans x9
          have HRY : Hid (dl (X % Y) ≤ 1000000) := Nat.le_trans (dl_mono (Nat.le_of_lt HLT.out)) HDY.out
          have HLQ : Hid (ly = (digs B32 Y).length) := HLY.out.symm
          clear hq hr
          go_wp2_with fail
          rw [HLQ.out]
          go_roundg (X % Y)
          case measure => have h5 := HLT.out; have h6 : Y ≤ gk := HK.out; omega
          case rel => exact ⟨Y, X % Y, A6, c6, A8, c8, rfl, rfl, HY9.out, HR.out, HG2.out, HDY.out, HRY.out, Nat.le_refl _, hx9⟩
        · have h3 : 2 < ly := by omega
          clear hbig
          go_wp2_with fail
          refine HDV.out.mono ?_
          rintro e w9 ⟨A7, c7, A8, c8, rfl, hq, hr, x9⟩
          have HR : Hid (NV w9 A8 c8 (digs B32 (X % Y)).length (X % Y)) := NO.nv hr
          have HY9 : Hid (NV w9 A6 c6 (digs B32 Y).length Y) := by
            show NV _ _ _ _ _
            rw [← show dl Y = (digs B32 Y).length from rfl, HLY.out]
            exact HY.out.ext x9
          have hx9 := hx.trans x9
          have HRY : Hid (dl (X % Y) ≤ 1000000) := Nat.le_trans (dl_mono (Nat.le_of_lt HLT.out)) HDY.out
          have HLQ : Hid (ly = (digs B32 Y).length) := HLY.out.symm
          clear hq hr
          go_wp2_with fail
          rw [HLQ.out]
          go_roundg (X % Y)
          case measure => have h5 := HLT.out; have h6 : Y ≤ gk := HK.out; omega
          case rel => exact ⟨Y, X % Y, A6, c6, A8, c8, rfl, rfl, HY9.out, HR.out, HG2.out, HDY.out, HRY.out, Nat.le_refl _, hx9⟩
    · have h2 : ¬ 2 < lx := by omega
      have h3 : ¬ 2 < ly := by omega
      clear hbig
      have hX64 : X < 18446744073709551616 := by
        have h5 := lt_pow_len B32_two X
        have h6 : B32 ^ (digs B32 X).length ≤ B32 ^ 2 := Nat.pow_le_pow_right (by unfold B32; omega) (by have := HLX.out; unfold dl at this; omega)
        have h7 : B32 ^ 2 = 18446744073709551616 := by unfold B32; rfl
        omega
      have hY64 : Y < 18446744073709551616 := by
        have h5 := lt_pow_len B32_two Y
        have h6 : B32 ^ (digs B32 Y).length ≤ B32 ^ 2 := Nat.pow_le_pow_right (by unfold B32; omega) (by have := HLY.out; unfold dl at this; omega)
        have h7 : B32 ^ 2 = 18446744073709551616 := by unfold B32; rfl
        omega
      have HU1 := Lib.hid (uint64_yes_v HX.out hX64)
      have HU2 := Lib.hid (fun w' (hx' : Ext wr w') => uint64_yes_v (HY.out.ext hx') hY64)
      go_wp2_with fail
      refine HU1.out.mono ?_
      rintro e w9 ⟨rfl, hq9⟩
      have x9 := hq9.ext
      go_wp2_with fail
      refine (HU2.out _ x9).mono ?_
      rintro e w10 ⟨rfl, hq10⟩
      have x10 := x9.trans hq10.ext
      clear hq9 hq10
      go_wp2_with fail
      obtain ⟨wo, rfl⟩ : ∃ wo : World, wo = wr := ⟨_, rfl⟩
      clear HU1 HU2 HX HY HP HQ HLX HLY HZY HK HDX HDY
      go_loopw [9, 11] (fun mv nv wz => ∃ M N : Nat, mv = .int .u64 M ∧ nv = .int .u64 N ∧ M < 18446744073709551616 ∧ N < 18446744073709551616 ∧ Hid (Nat.gcd M N = Nat.gcd x.natAbs y.natAbs) ∧ Ext wo wz) (fun _ nv _ => (intOf nv).toNat)
      case atStart => exact ⟨X, Y, rfl, rfl, hX64, hY64, HG.out, x10⟩
      case round =>
        obtain ⟨M, N, rfl, rfl, hM, hN, HMN, hxz⟩ := hrel
        by_cases hn0 : N = 0
        · have HFG : Hid (Nat.gcd x.natAbs y.natAbs = M) := by show _ = _; rw [← HMN.out, hn0, Nat.gcd_zero_right]
          subst hn0
          have HOF := Lib.hid (of_any (w := wr) M hM)
          have k1 := hxz.cell d1
          have k2 := hxz.cell d2
          have k3 := hxz.frozen d1 g1
          have k4 := hxz.frozen d2 g2
          go_wp2_with fail
          refine HOF.out.mono ?_
          rintro e w11 ⟨A11, c11, rfl, h11, x11⟩
          have hMn : dl M ≤ 17592186044416 := by
            have h5 : dl M ≤ 2 := dl_le (by have : B32 ^ 2 = 18446744073709551616 := by unfold B32; rfl
                                            omega)
            omega
          have HFR := Lib.hid (from_z (s := false) (x := (M : Int)) (w := w11) (c := c11) (L := (digs B32 M).length) (A := A11) ⟨by rw [Int.natAbs_natCast]; exact NO.nv h11, (fun h => by cases h), fun _ => Int.natCast_nonneg _⟩ (by rw [Int.natAbs_natCast]; exact hMn))
          clear h11 hMn
          replace k3 := x11.frozen k1 k3
          replace k4 := x11.frozen k2 k4
          replace k1 := x11.cell k1
          replace k2 := x11.cell k2
          have hB2 := World.block_lt_of_cell? w11 _ k1
          go_wp2_with fail
          refine HFR.out.mono ?_
          rintro e w12 ⟨sb, A9, c9, L9, rfl, hz, x12⟩
          replace k3 := x12.frozen k1 k3
          replace k4 := x12.frozen k2 k4
          replace k1 := x12.cell k1
          replace k2 := x12.cell k2
          obtain ⟨r5, r6, hz', hxx'⟩ := fin_z (by omega) hB2 (((hxx.trans hxz).trans x11).trans x12) hz k1 k2
          have HZ := Lib.hid hz'
          clear hz hz'
          go_wp2_with fail
          refine bodyPost_ret (v := .agg #[.bool sb, .slice A9 L9 c9]) (by simp [results, Try.results92, go_sem, r5, r6]) rfl ?_
          show RetZ w _ _ _
          rw [HFG.out]
          exact ⟨_, _, _, _, rfl, HZ.out, hxx'⟩
        · have hn1 : ((N : Int) != 0) = true := by simp; omega
          have hn3 : (1 : Int) ≤ (N : Int) := by omega
          have HG3 : Hid (Nat.gcd N (M % N) = Nat.gcd x.natAbs y.natAbs) := by
            show _ = _
            rw [← HMN.out, Nat.gcd_comm N, ← Nat.gcd_rec, Nat.gcd_comm]
          have hlt : M % N < N := Nat.mod_lt _ (by omega)
          have hMN : (M : Int) % (N : Int) = ((M % N : Nat) : Int) := (Int.natCast_emod M N).symm
          obtain ⟨R, hR⟩ : ∃ R, R = M % N := ⟨_, rfl⟩
          rw [← hR] at HG3 hlt hMN
          have hMN2 : (M : Int).tmod (N : Int) = (R : Int) := by rw [hR]; rfl
          clear hR
          have hXQ : Hid (∀ q, Ext wo (wr.drewN q)) := fun q => hxz.trans (Qt.ext ⟨q, rfl⟩)
          go_wp2_with fail
          go_quiet (fail)
          go_wp2_with fail
          go_roundw
          case rel => exact ⟨N, R, by go_num, by go_num, hN, by omega, HG3.out, hXQ.out _⟩
          case measure => simp [intOf]; omega
end Go.Proofs.Ytfnmbhjifdfibaa
