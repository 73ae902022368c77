/- The walk of IntegerKeeps. -/
import Derived.Test.YtcccabgeoaidjaaKeepJ
import Derived.Test.YtcccabgeoaidjaaAppU
namespace Go.Proofs.Ytcccabgeoaidjaa
open Go.RowKit
set_option maxHeartbeats 4000000 in
set_option maxRecDepth 100000 in
theorem integerKeeps_walk {w : World} {s1 s2 : Bool} {A1 A2 : Option Addr} {c1 c2 : Nat} {da db : List Nat} {z1 z2 : Int} (h1 : NR w A1 c1 da) (n1 : A1 = none → c1 = 0) (v1 : ZV w s1 A1 c1 da.length z1) (h2 : NR w A2 c2 db) (n2 : A2 = none → c2 = 0) (v2 : ZV w s2 A2 c2 db.length z2) :
    Calls Try.prog 10 #[.agg #[.bool s1, .slice A1 da.length c1], .agg #[.bool s2, .slice A2 db.length c2]] w fun e w' => e = .returned (.bool true) ∧ Ext w w' := by
  have p1 := v1.nv.cap
  have q1 := v1.nv.le
  have p2 := v2.nv.cap
  have q2 := v2.nv.le
  by_cases hf : (decide (da.length ≤ 10) && (decide (db.length ≤ 10) && decide (da.length ≤ 10))) = true
  · have k1 := hf
    simp only [Bool.and_eq_true, decide_eq_true_eq] at k1
    have HF := Lib.hid hf
    clear hf
    have b1 : dl z1.natAbs ≤ 10 := Nat.le_trans v1.nv.dl k1.1
    have b2 : dl z2.natAbs ≤ 10 := Nat.le_trans v2.nv.dl k1.2.1
    have b3 : bl z1.natAbs ≤ 320 := Nat.le_trans v1.nv.bl (by omega)
    have HR1 := Lib.hid h1.rd
    have HR2 := Lib.hid h2.rd
    have HV1 := Lib.hid v1
    have HV2 := Lib.hid v2
    have HVT : Hid (ZV w true A1 c1 da.length (-(z1.natAbs : Int))) := ⟨by rw [Int.natAbs_neg, Int.natAbs_natCast]; exact v1.nv, fun _ => by omega, fun h => by cases h⟩
    have HPW : Hid (∀ w', Ext w w' → Calls Try.prog 39 #[.agg #[.bool s1, .slice A1 da.length c1], .int .i64 1] w' (RetZOK w' (z1 ^ 1))) := fun w' hx => by
      refine ipow_g (n := 1) (HV1.out.ext hx) (by omega) (fun j hj => ?_) (by omega) (by omega)
      rcases (show j = 0 ∨ j = 1 by omega) with rfl | rfl
      · rw [Int.pow_zero]; show dl 1 ≤ 40; rw [dl_one]; omega
      · rw [Int.pow_one]; omega
    clear h1 h2 v1 v2
    go_enter Try.func10, Try.ntmps10
    go_wp2_with fail
    obtain ⟨w0, hw0⟩ : ∃ z : World, z = ((w.alloc (.cells #[.bool s1, .slice A1 da.length c1] 25)).alloc (.cells #[.bool s2, .slice A2 db.length c2] 25)) := ⟨_, rfl⟩
    rw [← hw0]
    have b0 := box_at w #[.bool s1, .slice A1 da.length c1] 25
    have b1 := box_at (w.alloc (.cells #[.bool s1, .slice A1 da.length c1] 25)) #[.bool s2, .slice A2 db.length c2] 25
    have hsz : w0.heap.size = w.heap.size + 1 + 1 := by rw [hw0]; simp
    rw [← hw0] at b1
    have y1 : Ext (w.alloc (.cells #[.bool s1, .slice A1 da.length c1] 25)) w0 := by rw [hw0]; exact Ext.alloc _ _
    have y0 : Ext w w0 := (Ext.alloc _ _).trans y1
    have x0 : Ext w w0 := y0
    have e0_0 := y1.cell (b0.1 0 (.bool s1) rfl)
    have e0_1 := y1.cell (b0.1 1 (.slice A1 da.length c1) rfl)
    have e1_0 := b1.1 0 (.bool s2) rfl
    have e1_1 := b1.1 1 (.slice A2 db.length c2) rfl
    simp only [World.size_alloc] at e1_0 e1_1
    clear hw0 b0 b1 y0 y1
    go_wp2_with fail
    refine (lawake_z _).mono ?_
    rintro e w1 ⟨rfl, x1⟩
    replace e0_0 := x1.cell e0_0
    replace e0_1 := x1.cell e0_1
    replace e1_0 := x1.cell e1_0
    replace e1_1 := x1.cell e1_1
    go_wp2_with fail
    refine (lfew_z (n := 10) (by omega) (by omega) (by omega)).mono ?_
    rintro e w2 ⟨rfl, x2⟩
    replace e0_0 := x2.cell e0_0
    replace e0_1 := x2.cell e0_1
    replace e1_0 := x2.cell e1_0
    replace e1_1 := x2.cell e1_1
    rw [HF.out]
    clear hsz
    have e1 : (#[] : Array Value) = (nums .u32 []).toArray := rfl
    have te0_0 := fun o => (Ext.alloc w2 o).cell e0_0
    have te0_1 := fun o => (Ext.alloc w2 o).cell e0_1
    have te1_0 := fun o => (Ext.alloc w2 o).cell e1_0
    have te1_1 := fun o => (Ext.alloc w2 o).cell e1_1
    have hsz := (show w.heap.size ≤ w2.heap.size from Ext.size (by repeat' (first | with_reducible exact Ext.refl _ | with_reducible assumption | with_reducible apply Ext.alloc_r | with_reducible apply Ext.drew_r | with_reducible apply Ext.drewN_r | with_reducible refine Ext.trans ?_ ‹Ext _ _›)))
    have HRw : Hid (Rd w2 .u32 A1 da) := HR1.out.below (show Ext w w2 from (by repeat' (first | with_reducible exact Ext.refl _ | with_reducible assumption | with_reducible apply Ext.alloc_r | with_reducible apply Ext.drew_r | with_reducible apply Ext.drewN_r | with_reducible refine Ext.trans ?_ ‹Ext _ _›)))
    go_wp2_with (at_builtin; refine wpList_appU rfl _ _ _ _ rfl w2.heap.size 59 .u32 4 Try.underlying22 59 Try.underlying23 info_u32 (by omega) (some ⟨w2.heap.size, 0, none⟩) 0 0 [] rfl rfl (Own.of_row' (Row.new w2 .u32 59 []) (Nat.le_refl _) (by simp) rfl rfl) A1 da.length c1 da rfl rfl (HRw.out.below (Ext.alloc _ _)) n1 ?h3 ?h4 ?h5)
    case h3 => omega
    case h4 => simp
    case h5 =>
      clear HRw hsz te0_0 te0_1 te1_0 te1_1
      intro B1 d1 w3 o1 bx
      have x3 : Ext w2 w3 := Below.trans (Ext.alloc w2 _) bx
      have R1 := Lib.hid (Own.rd o1)
      clear o1 bx
      replace e0_0 := x3.cell e0_0
      replace e0_1 := x3.cell e0_1
      replace e1_0 := x3.cell e1_0
      replace e1_1 := x3.cell e1_1
      have te0_0 := fun o => (Ext.alloc w3 o).cell e0_0
      have te0_1 := fun o => (Ext.alloc w3 o).cell e0_1
      have te1_0 := fun o => (Ext.alloc w3 o).cell e1_0
      have te1_1 := fun o => (Ext.alloc w3 o).cell e1_1
      have hsz := (show w.heap.size ≤ w3.heap.size from Ext.size (by repeat' (first | with_reducible exact Ext.refl _ | with_reducible assumption | with_reducible apply Ext.alloc_r | with_reducible apply Ext.drew_r | with_reducible apply Ext.drewN_r | with_reducible refine Ext.trans ?_ ‹Ext _ _›)))
      have HRw : Hid (Rd w3 .u32 A2 db) := HR2.out.below (show Ext w w3 from (by repeat' (first | with_reducible exact Ext.refl _ | with_reducible assumption | with_reducible apply Ext.alloc_r | with_reducible apply Ext.drew_r | with_reducible apply Ext.drewN_r | with_reducible refine Ext.trans ?_ ‹Ext _ _›)))
      go_wp2_with (at_builtin; refine wpList_appU rfl _ _ _ _ rfl w3.heap.size 59 .u32 4 Try.underlying22 59 Try.underlying23 info_u32 (by omega) (some ⟨w3.heap.size, 0, none⟩) 0 0 [] rfl rfl (Own.of_row' (Row.new w3 .u32 59 []) (Nat.le_refl _) (by simp) rfl rfl) A2 db.length c2 db rfl rfl (HRw.out.below (Ext.alloc _ _)) n2 ?h3 ?h4 ?h5)
      case h3 => omega
      case h4 => simp
      case h5 =>
        clear HRw hsz te0_0 te0_1 te1_0 te1_1
        intro B2 d2 w4 o2 bx
        have x4 : Ext w3 w4 := Below.trans (Ext.alloc w3 _) bx
        have R2 := Lib.hid (Own.rd o2)
        clear o2 bx
        replace e0_0 := x4.cell e0_0
        replace e0_1 := x4.cell e0_1
        replace e1_0 := x4.cell e1_0
        replace e1_1 := x4.cell e1_1
        clear e1
        have HE0 := Lib.hid e0_1
        have HE1 := Lib.hid e1_1
        go_wp2_with fail
        refine (of_z (n := 1) (by omega)).mono ?_
        rintro e w5 ⟨so, Ao, co, Lo, rfl, o, x5⟩
        replace e0_0 := x5.cell e0_0
        replace e0_1 := x5.cell e0_1
        replace e1_0 := x5.cell e1_0
        replace e1_1 := x5.cell e1_1
        have te0_0 := fun o => (Ext.alloc w5 o).cell e0_0
        have te0_1 := fun o => (Ext.alloc w5 o).cell e0_1
        have te1_0 := fun o => (Ext.alloc w5 o).cell e1_0
        have te1_1 := fun o => (Ext.alloc w5 o).cell e1_1
        go_wp2_with fail
        clear te0_0 te0_1 te1_0 te1_1
        obtain ⟨w6, hw⟩ : ∃ z : World, z = (w5.alloc (.cells #[.bool so, .slice Ao Lo co] 25)) := ⟨_, rfl⟩
        rw [← hw]
        have x6 : Ext w5 w6 := by rw [hw]; exact Ext.alloc _ _
        have bb := box_at w5 #[.bool so, .slice Ao Lo co] 25
        rw [← hw] at bb
        replace e0_0 := x6.cell e0_0
        replace e0_1 := x6.cell e0_1
        replace e1_0 := x6.cell e1_0
        replace e1_1 := x6.cell e1_1
        have o__0 := bb.1 0 (.bool so) rfl
        have o__1 := bb.1 1 (.slice Ao Lo co) rfl
        clear hw bb
        go_wp2_with fail
        refine (HPW.out _ (by repeat' (first | with_reducible exact Ext.refl _ | with_reducible assumption | with_reducible apply Ext.alloc_r | with_reducible apply Ext.drew_r | with_reducible apply Ext.drewN_r | with_reducible refine Ext.trans ?_ ‹Ext _ _›))).mono ?_
        rintro e w7 ⟨sp, Ap, cp, Lp, rfl, p, x7⟩
        replace e0_0 := x7.cell e0_0
        replace e0_1 := x7.cell e0_1
        replace e1_0 := x7.cell e1_0
        replace e1_1 := x7.cell e1_1
        replace o__0 := x7.cell o__0
        replace o__1 := x7.cell o__1
        have te0_0 := fun o => (Ext.alloc w7 o).cell e0_0
        have te0_1 := fun o => (Ext.alloc w7 o).cell e0_1
        have te1_0 := fun o => (Ext.alloc w7 o).cell e1_0
        have te1_1 := fun o => (Ext.alloc w7 o).cell e1_1
        have to__0 := fun o => (Ext.alloc w7 o).cell o__0
        have to__1 := fun o => (Ext.alloc w7 o).cell o__1
        go_wp2_with fail
        clear te0_0 te0_1 te1_0 te1_1 to__0 to__1
        obtain ⟨w8, hw⟩ : ∃ z : World, z = (w7.alloc (.cells #[.bool sp, .slice Ap Lp cp] 25)) := ⟨_, rfl⟩
        rw [← hw]
        have x8 : Ext w7 w8 := by rw [hw]; exact Ext.alloc _ _
        have bb := box_at w7 #[.bool sp, .slice Ap Lp cp] 25
        rw [← hw] at bb
        replace e0_0 := x8.cell e0_0
        replace e0_1 := x8.cell e0_1
        replace e1_0 := x8.cell e1_0
        replace e1_1 := x8.cell e1_1
        replace o__0 := x8.cell o__0
        replace o__1 := x8.cell o__1
        have p__0 := bb.1 0 (.bool sp) rfl
        have p__1 := bb.1 1 (.slice Ap Lp cp) rfl
        clear hw bb
        go_wp2_with fail
        have HB4 := Lib.hid (show w4.heap.size ≤ w8.heap.size from Ext.size (by repeat' (first | with_reducible exact Ext.refl _ | with_reducible assumption | with_reducible apply Ext.alloc_r | with_reducible apply Ext.drew_r | with_reducible apply Ext.drewN_r | with_reducible refine Ext.trans ?_ ‹Ext _ _›)))
        have HO := Lib.hid o
        have HP : Hid (OA w7 w4.heap.size Ap cp Lp) := (ZO.oa p).mono (show w4.heap.size ≤ w6.heap.size from Ext.size (by repeat' (first | with_reducible exact Ext.refl _ | with_reducible assumption | with_reducible apply Ext.alloc_r | with_reducible apply Ext.drew_r | with_reducible apply Ext.drewN_r | with_reducible refine Ext.trans ?_ ‹Ext _ _›)))
        clear o p
        refine wp_region_flowU (fun u => { tmps := #[(.agg #[.bool s1, .slice A1 da.length c1]), (.agg #[.bool s2, .slice A2 db.length c2]), .pointer (some ⟨w.heap.size, 0, none⟩), .pointer (some ⟨w.heap.size + 1, 0, none⟩), .bool false, .slice B1 da.length d1, .slice B2 db.length d2, .pointer (some ⟨w5.heap.size, 0, none⟩), .pointer (some ⟨w7.heap.size, 0, none⟩), .int .i64 0, u 31, undef, undef, .bool true, .bool false, .bool false, (.agg #[.bool s1, .slice A1 da.length c1]), (.agg #[.bool s2, .slice A2 db.length c2]), (.agg #[.bool s1, .slice A1 da.length c1]), .bool true, .bool false, .bool false, undef, .slice (some ⟨w2.heap.size, 0, none⟩) 0 0, .pointer (some ⟨w.heap.size, 1, none⟩), .slice A1 da.length c1, .slice B1 da.length d1, .slice (some ⟨w3.heap.size, 0, none⟩) 0 0, .pointer (some ⟨w.heap.size + 1, 1, none⟩), .slice A2 db.length c2, .slice B2 db.length d2, .agg #[.bool so, .slice Ao Lo co], .tuple #[.agg #[.bool sp, .slice Ap Lp cp], .int .i64 0], (.agg #[.bool s1, .slice A1 da.length c1]), .tuple #[.agg #[.bool sp, .slice Ap Lp cp], .int .i64 0], .agg #[.bool sp, .slice Ap Lp cp], .int .i64 0, u 0, u 1, u 2, u 3, u 4, u 5, u 6, u 7, u 8, u 9, u 10, u 11, u 12, u 13, u 14, u 15, u 16, u 17, u 18, u 19, u 20, u 21, u 22, u 23, u 24, u 25, u 26, u 27, u 28, u 29, u 30, undef, undef, undef, undef, undef, undef, undef, undef, undef, undef, undef, undef, undef, undef, undef, undef, undef, undef, undef, undef, undef, undef, undef, undef, undef, undef, undef, undef, undef, undef, undef, undef, undef, undef, undef, undef], defers := [] }) (FJ w4.heap.size z1 [.val (.agg #[.bool s1, .slice A1 da.length c1]), .res, .val (.agg #[.bool s1, .slice A1 da.length c1]), .res, .val (.agg #[.bool s1, .slice A1 da.length c1]), .res, .val (.agg #[.bool s1, .slice A1 da.length c1]), .zero, .res, .val (.agg #[.bool s1, .slice A1 da.length c1]), .val (.agg #[.bool so, .slice Ao Lo co]), .res, .val (.agg #[.bool s1, .slice A1 da.length c1]), .res, .res, .val (.agg #[.bool s1, .slice A1 da.length c1]), .lst, .res, .val (.agg #[.bool s1, .slice A1 da.length c1]), .lst, .res, .val (.pointer (some ⟨w.heap.size, 1, none⟩)), .val (.slice A1 da.length c1), .res, .val (.agg #[.bool s1, .slice A1 da.length c1]), .val (.agg #[.bool s2, .slice A2 db.length c2]), .res, .zero, .val (.agg #[.bool s2, .slice A2 db.length c2]), .res, .row, .row]) (fun _ => undef) rfl (by kernel_rfl) ?h0 (fun _ _ _ _ h hx => h.ext hx) ?hstep ?hend
        case h0 => rfl
        case hstep =>
          intro i o ho u w' hx hd K hK
          have hi : i < 32 := (Array.getElem?_eq_some_iff.1 ho).1
          have hB' : w4.heap.size ≤ w'.heap.size := Nat.le_trans HB4.out hx.size
          rcases (show i = 0 ∨ i = 1 ∨ i = 2 ∨ i = 3 ∨ i = 4 ∨ i = 5 ∨ i = 6 ∨ i = 7 ∨ i = 8 ∨ i = 9 ∨ i = 10 ∨ i = 11 ∨ i = 12 ∨ i = 13 ∨ i = 14 ∨ i = 15 ∨ i = 16 ∨ i = 17 ∨ i = 18 ∨ i = 19 ∨ i = 20 ∨ i = 21 ∨ i = 22 ∨ i = 23 ∨ i = 24 ∨ i = 25 ∨ i = 26 ∨ i = 27 ∨ i = 28 ∨ i = 29 ∨ i = 30 ∨ i = 31 by omega) with rfl | rfl | rfl | rfl | rfl | rfl | rfl | rfl | rfl | rfl | rfl | rfl | rfl | rfl | rfl | rfl | rfl | rfl | rfl | rfl | rfl | rfl | rfl | rfl | rfl | rfl | rfl | rfl | rfl | rfl | rfl | rfl
          all_goals (cases (Option.some.inj ho); rw [if_pos (by rfl)])
          · have t0 := hx.cell e0_0
            have t1 := hx.cell e0_1
            go_simp
            exact hK.out (.agg #[.bool s1, .slice A1 da.length c1]) _ (Ext.refl _) rfl
          · have f0 : u 0 = (.agg #[.bool s1, .slice A1 da.length c1]) := hd ⟨0, .data⟩ (by simp) (by kernel_rfl)
            go_simp
            refine (znormal_z (HV1.out.ext (by repeat' (first | with_reducible exact Ext.refl _ | with_reducible assumption | with_reducible apply Ext.alloc_r | with_reducible apply Ext.drew_r | with_reducible apply Ext.drewN_r | with_reducible refine Ext.trans ?_ ‹Ext _ _›))) (by omega)).mono ?_
            intro e w'' hr
            obtain ⟨v, rfl, hv, hx2⟩ := RetZ.res hr hB'
            have e2 := hK.out v _ hx2 hv
            try rw [← f0] at e2
            try rw [← f0]
            exact e2
          · have t0 := hx.cell e0_0
            have t1 := hx.cell e0_1
            go_simp
            exact hK.out (.agg #[.bool s1, .slice A1 da.length c1]) _ (Ext.refl _) rfl
          · have f2 : u 2 = (.agg #[.bool s1, .slice A1 da.length c1]) := hd ⟨2, .data⟩ (by simp) (by kernel_rfl)
            go_simp
            refine (neg_z (HV1.out.ext (by repeat' (first | with_reducible exact Ext.refl _ | with_reducible assumption | with_reducible apply Ext.alloc_r | with_reducible apply Ext.drew_r | with_reducible apply Ext.drewN_r | with_reducible refine Ext.trans ?_ ‹Ext _ _›))) (by omega)).mono ?_
            intro e w'' hr
            obtain ⟨v, rfl, hv, hx2⟩ := RetZ.res hr hB'
            have e2 := hK.out v _ hx2 hv
            try rw [← f2] at e2
            try rw [← f2]
            exact e2
          · have t0 := hx.cell e0_0
            have t1 := hx.cell e0_1
            go_simp
            exact hK.out (.agg #[.bool s1, .slice A1 da.length c1]) _ (Ext.refl _) rfl
          · have f4 : u 4 = (.agg #[.bool s1, .slice A1 da.length c1]) := hd ⟨4, .data⟩ (by simp) (by kernel_rfl)
            go_simp
            refine (abs_z (HV1.out.ext (by repeat' (first | with_reducible exact Ext.refl _ | with_reducible assumption | with_reducible apply Ext.alloc_r | with_reducible apply Ext.drew_r | with_reducible apply Ext.drewN_r | with_reducible refine Ext.trans ?_ ‹Ext _ _›))) (by omega)).mono ?_
            intro e w'' hr
            obtain ⟨v, rfl, hv, hx2⟩ := RetZ.res hr hB'
            have e2 := hK.out v _ hx2 hv
            try rw [← f4] at e2
            try rw [← f4]
            exact e2
          · have t0 := hx.cell e0_0
            have t1 := hx.cell e0_1
            go_simp
            exact hK.out (.agg #[.bool s1, .slice A1 da.length c1]) _ (Ext.refl _) rfl
          · go_simp
            refine (of_z (n := 0) (by omega)).mono ?_
            rintro e w'' ⟨s, A, c, L, rfl, hz, hx2⟩
            exact hK.out _ _ hx2 ⟨_, _, _, _, rfl, hz.mono hB'⟩
          · have f6 : u 6 = (.agg #[.bool s1, .slice A1 da.length c1]) := hd ⟨6, .data⟩ (by simp) (by kernel_rfl)
            obtain ⟨s7, A7, c7, L7, f7, z7⟩ : ZeroI w' w4.heap.size (u 7) := hd ⟨7, .data⟩ (by simp) (by kernel_rfl)
            go_simp
            refine (add_z (HV1.out.ext (by repeat' (first | with_reducible exact Ext.refl _ | with_reducible assumption | with_reducible apply Ext.alloc_r | with_reducible apply Ext.drew_r | with_reducible apply Ext.drewN_r | with_reducible refine Ext.trans ?_ ‹Ext _ _›))) z7.zv (by omega) (by have : dl (0 : Int).natAbs = 0 := rfl; omega)).mono ?_
            intro e w'' hr
            obtain ⟨v, rfl, hv, hx2⟩ := RetZ.res hr hB'
            have e2 := hK.out v _ hx2 hv
            try rw [← f6] at e2
            try rw [← f6]
            try rw [← f7] at e2
            try rw [← f7]
            exact e2
          · have t0 := hx.cell e0_0
            have t1 := hx.cell e0_1
            go_simp
            exact hK.out (.agg #[.bool s1, .slice A1 da.length c1]) _ (Ext.refl _) rfl
          · have t0 := hx.cell o__0
            have t1 := hx.cell o__1
            go_simp
            exact hK.out (.agg #[.bool so, .slice Ao Lo co]) _ (Ext.refl _) rfl
          · have f9 : u 9 = (.agg #[.bool s1, .slice A1 da.length c1]) := hd ⟨9, .data⟩ (by simp) (by kernel_rfl)
            have f10 : u 10 = (.agg #[.bool so, .slice Ao Lo co]) := hd ⟨10, .data⟩ (by simp) (by kernel_rfl)
            go_simp
            refine (mul_z (HV1.out.ext (by repeat' (first | with_reducible exact Ext.refl _ | with_reducible assumption | with_reducible apply Ext.alloc_r | with_reducible apply Ext.drew_r | with_reducible apply Ext.drewN_r | with_reducible refine Ext.trans ?_ ‹Ext _ _›))) (HO.out.zv.ext (by repeat' (first | with_reducible exact Ext.refl _ | with_reducible assumption | with_reducible apply Ext.alloc_r | with_reducible apply Ext.drew_r | with_reducible apply Ext.drewN_r | with_reducible refine Ext.trans ?_ ‹Ext _ _›))) (by have : dl (1 : Int).natAbs ≤ 1 := dl_le (by unfold B32; omega); omega) (by have : dl (1 : Int).natAbs ≤ 1 := dl_le (by unfold B32; omega); omega)).mono ?_
            intro e w'' hr
            obtain ⟨v, rfl, hv, hx2⟩ := RetZ.res hr hB'
            have e2 := hK.out v _ hx2 hv
            try rw [← f9] at e2
            try rw [← f9]
            try rw [← f10] at e2
            try rw [← f10]
            exact e2
          · have t0 := hx.cell e0_0
            have t1 := hx.cell e0_1
            go_simp
            exact hK.out (.agg #[.bool s1, .slice A1 da.length c1]) _ (Ext.refl _) rfl
          · have f12 : u 12 = (.agg #[.bool s1, .slice A1 da.length c1]) := hd ⟨12, .data⟩ (by simp) (by kernel_rfl)
            go_simp
            refine (zshl_z (n := 0) (HV1.out.ext (by repeat' (first | with_reducible exact Ext.refl _ | with_reducible assumption | with_reducible apply Ext.alloc_r | with_reducible apply Ext.drew_r | with_reducible apply Ext.drewN_r | with_reducible refine Ext.trans ?_ ‹Ext _ _›))) (by omega) (by omega) rfl).mono ?_
            intro e w'' hr
            obtain ⟨v, rfl, hv, hx2⟩ := RetZ.res hr hB'
            have e2 := hK.out v _ hx2 hv
            try rw [← f12] at e2
            try rw [← f12]
            exact e2
          · have t0 := hx.cell p__0
            have t1 := hx.cell p__1
            go_simp
            exact hK.out (.agg #[.bool sp, .slice Ap Lp cp]) _ (Ext.refl _) ⟨_, _, _, _, rfl, HP.out.ext (by repeat' (first | with_reducible exact Ext.refl _ | with_reducible assumption | with_reducible apply Ext.alloc_r | with_reducible apply Ext.drew_r | with_reducible apply Ext.drewN_r | with_reducible refine Ext.trans ?_ ‹Ext _ _›))⟩
          · have t0 := hx.cell e0_0
            have t1 := hx.cell e0_1
            go_simp
            exact hK.out (.agg #[.bool s1, .slice A1 da.length c1]) _ (Ext.refl _) rfl
          · have f15 : u 15 = (.agg #[.bool s1, .slice A1 da.length c1]) := hd ⟨15, .data⟩ (by simp) (by kernel_rfl)
            go_simp
            have e2 := hK.out (.slice (some ⟨w'.heap.size, 0, none⟩) 1 1) (w'.alloc (.cells #[.bool s1, .slice A1 da.length c1] 25)) (Ext.alloc _ _) (oneL_new (HV1.out.ext (by repeat' (first | with_reducible exact Ext.refl _ | with_reducible assumption | with_reducible apply Ext.alloc_r | with_reducible apply Ext.drew_r | with_reducible apply Ext.drewN_r | with_reducible refine Ext.trans ?_ ‹Ext _ _›))))
            try rw [← f15] at e2
            try rw [← f15]
            exact e2
          · obtain ⟨g16, f16, z16⟩ : OneL w' z1 (u 16) := hd ⟨16, .data⟩ (by simp) (by kernel_rfl)
            go_simp
            refine (sum_z z16 (by simp) rfl (by simp; omega)).mono ?_
            intro e w'' hr
            obtain ⟨v, rfl, hv, hx2⟩ := RetZ.res hr hB'
            have e2 := hK.out v _ hx2 hv
            try rw [← f16] at e2
            try rw [← f16]
            exact e2
          · have t0 := hx.cell e0_0
            have t1 := hx.cell e0_1
            go_simp
            exact hK.out (.agg #[.bool s1, .slice A1 da.length c1]) _ (Ext.refl _) rfl
          · have f18 : u 18 = (.agg #[.bool s1, .slice A1 da.length c1]) := hd ⟨18, .data⟩ (by simp) (by kernel_rfl)
            go_simp
            have e2 := hK.out (.slice (some ⟨w'.heap.size, 0, none⟩) 1 1) (w'.alloc (.cells #[.bool s1, .slice A1 da.length c1] 25)) (Ext.alloc _ _) (oneL_new (HV1.out.ext (by repeat' (first | with_reducible exact Ext.refl _ | with_reducible assumption | with_reducible apply Ext.alloc_r | with_reducible apply Ext.drew_r | with_reducible apply Ext.drewN_r | with_reducible refine Ext.trans ?_ ‹Ext _ _›))))
            try rw [← f18] at e2
            try rw [← f18]
            exact e2
          · obtain ⟨g19, f19, z19⟩ : OneL w' z1 (u 19) := hd ⟨19, .data⟩ (by simp) (by kernel_rfl)
            go_simp
            refine (product_z z19 (by simp) rfl (by simp; omega)).mono ?_
            intro e w'' hr
            obtain ⟨v, rfl, hv, hx2⟩ := RetZ.res hr hB'
            have e2 := hK.out v _ hx2 hv
            try rw [← f19] at e2
            try rw [← f19]
            exact e2
          · go_simp
            exact hK.out _ _ (Ext.refl _) rfl
          · have f21 : u 21 = (.pointer (some ⟨w.heap.size, 1, none⟩)) := hd ⟨21, .data⟩ (by simp) (by kernel_rfl)
            have t1 := hx.cell e0_1
            go_simp
            have e2 := hK.out (.slice A1 da.length c1) _ (Ext.refl _) rfl
            try rw [← f21] at e2
            try rw [← f21]
            exact e2
          · have f22 : u 22 = (.slice A1 da.length c1) := hd ⟨22, .data⟩ (by simp) (by kernel_rfl)
            go_simp
            refine (from_z (HVT.out.ext (by repeat' (first | with_reducible exact Ext.refl _ | with_reducible assumption | with_reducible apply Ext.alloc_r | with_reducible apply Ext.drew_r | with_reducible apply Ext.drewN_r | with_reducible refine Ext.trans ?_ ‹Ext _ _›))) (by rw [Int.natAbs_neg, Int.natAbs_natCast]; omega)).mono ?_
            intro e w'' hr
            obtain ⟨v, rfl, hv, hx2⟩ := RetZ.res hr hB'
            have e2 := hK.out v _ hx2 hv
            try rw [← f22] at e2
            try rw [← f22]
            exact e2
          · have t0 := hx.cell e0_0
            have t1 := hx.cell e0_1
            go_simp
            exact hK.out (.agg #[.bool s1, .slice A1 da.length c1]) _ (Ext.refl _) rfl
          · have t0 := hx.cell e1_0
            have t1 := hx.cell e1_1
            go_simp
            exact hK.out (.agg #[.bool s2, .slice A2 db.length c2]) _ (Ext.refl _) rfl
          · have f24 : u 24 = (.agg #[.bool s1, .slice A1 da.length c1]) := hd ⟨24, .data⟩ (by simp) (by kernel_rfl)
            have f25 : u 25 = (.agg #[.bool s2, .slice A2 db.length c2]) := hd ⟨25, .data⟩ (by simp) (by kernel_rfl)
            go_simp
            refine (sub_z (HV1.out.ext (by repeat' (first | with_reducible exact Ext.refl _ | with_reducible assumption | with_reducible apply Ext.alloc_r | with_reducible apply Ext.drew_r | with_reducible apply Ext.drewN_r | with_reducible refine Ext.trans ?_ ‹Ext _ _›))) (HV2.out.ext (by repeat' (first | with_reducible exact Ext.refl _ | with_reducible assumption | with_reducible apply Ext.alloc_r | with_reducible apply Ext.drew_r | with_reducible apply Ext.drewN_r | with_reducible refine Ext.trans ?_ ‹Ext _ _›))) (by omega) (by omega)).mono ?_
            intro e w'' hr
            obtain ⟨v, rfl, hv, hx2⟩ := RetZ.res hr hB'
            have e2 := hK.out v _ hx2 hv
            try rw [← f24] at e2
            try rw [← f24]
            try rw [← f25] at e2
            try rw [← f25]
            exact e2
          · go_simp
            refine (of_z (n := 0) (by omega)).mono ?_
            rintro e w'' ⟨s, A, c, L, rfl, hz, hx2⟩
            exact hK.out _ _ hx2 ⟨_, _, _, _, rfl, hz.mono hB'⟩
          · have t0 := hx.cell e1_0
            have t1 := hx.cell e1_1
            go_simp
            exact hK.out (.agg #[.bool s2, .slice A2 db.length c2]) _ (Ext.refl _) rfl
          · obtain ⟨s27, A27, c27, L27, f27, z27⟩ : ZeroI w' w4.heap.size (u 27) := hd ⟨27, .data⟩ (by simp) (by kernel_rfl)
            have f28 : u 28 = (.agg #[.bool s2, .slice A2 db.length c2]) := hd ⟨28, .data⟩ (by simp) (by kernel_rfl)
            go_simp
            refine (sub_z z27.zv (HV2.out.ext (by repeat' (first | with_reducible exact Ext.refl _ | with_reducible assumption | with_reducible apply Ext.alloc_r | with_reducible apply Ext.drew_r | with_reducible apply Ext.drewN_r | with_reducible refine Ext.trans ?_ ‹Ext _ _›))) (by have : dl (0 : Int).natAbs = 0 := rfl; omega) (by omega)).mono ?_
            intro e w'' hr
            obtain ⟨v, rfl, hv, hx2⟩ := RetZ.res hr hB'
            have e2 := hK.out v _ hx2 hv
            try rw [← f27] at e2
            try rw [← f27]
            try rw [← f28] at e2
            try rw [← f28]
            exact e2
          · obtain ⟨s1, A1, c1, L1, f1, z1⟩ : ResI w' w4.heap.size (u 1) := hd ⟨1, .data⟩ (by simp) (by kernel_rfl)
            obtain ⟨s3, A3, c3, L3, f3, z3⟩ : ResI w' w4.heap.size (u 3) := hd ⟨3, .data⟩ (by simp) (by kernel_rfl)
            obtain ⟨s5, A5, c5, L5, f5, z5⟩ : ResI w' w4.heap.size (u 5) := hd ⟨5, .data⟩ (by simp) (by kernel_rfl)
            obtain ⟨s8, A8, c8, L8, f8, z8⟩ : ResI w' w4.heap.size (u 8) := hd ⟨8, .data⟩ (by simp) (by kernel_rfl)
            obtain ⟨s11, A11, c11, L11, f11, z11⟩ : ResI w' w4.heap.size (u 11) := hd ⟨11, .data⟩ (by simp) (by kernel_rfl)
            obtain ⟨s13, A13, c13, L13, f13, z13⟩ : ResI w' w4.heap.size (u 13) := hd ⟨13, .data⟩ (by simp) (by kernel_rfl)
            obtain ⟨s14, A14, c14, L14, f14, z14⟩ : ResI w' w4.heap.size (u 14) := hd ⟨14, .data⟩ (by simp) (by kernel_rfl)
            obtain ⟨s17, A17, c17, L17, f17, z17⟩ : ResI w' w4.heap.size (u 17) := hd ⟨17, .data⟩ (by simp) (by kernel_rfl)
            obtain ⟨s20, A20, c20, L20, f20, z20⟩ : ResI w' w4.heap.size (u 20) := hd ⟨20, .data⟩ (by simp) (by kernel_rfl)
            obtain ⟨s23, A23, c23, L23, f23, z23⟩ : ResI w' w4.heap.size (u 23) := hd ⟨23, .data⟩ (by simp) (by kernel_rfl)
            obtain ⟨s26, A26, c26, L26, f26, z26⟩ : ResI w' w4.heap.size (u 26) := hd ⟨26, .data⟩ (by simp) (by kernel_rfl)
            obtain ⟨s29, A29, c29, L29, f29, z29⟩ : ResI w' w4.heap.size (u 29) := hd ⟨29, .data⟩ (by simp) (by kernel_rfl)
            go_simp
            have e2 := hK.out _ _ (Ext.alloc w' _) (rowI_new [(s1, A1, L1, c1), (s3, A3, L3, c3), (s5, A5, L5, c5), (s8, A8, L8, c8), (s11, A11, L11, c11), (s13, A13, L13, c13), (s14, A14, L14, c14), (s17, A17, L17, c17), (s20, A20, L20, c20), (s23, A23, L23, c23), (s26, A26, L26, c26), (s29, A29, L29, c29)] rfl hB' (by simp only [List.forall_mem_cons]; exact ⟨z1, z3, z5, z8, z11, z13, z14, z17, z20, z23, z26, z29, fun _ h => by cases h⟩))
            try rw [← f1] at e2
            try rw [← f1]
            try rw [← f3] at e2
            try rw [← f3]
            try rw [← f5] at e2
            try rw [← f5]
            try rw [← f8] at e2
            try rw [← f8]
            try rw [← f11] at e2
            try rw [← f11]
            try rw [← f13] at e2
            try rw [← f13]
            try rw [← f14] at e2
            try rw [← f14]
            try rw [← f17] at e2
            try rw [← f17]
            try rw [← f20] at e2
            try rw [← f20]
            try rw [← f23] at e2
            try rw [← f23]
            try rw [← f26] at e2
            try rw [← f26]
            try rw [← f29] at e2
            try rw [← f29]
            exact e2
          · have f30 : RowI w' w4.heap.size (u 30) := hd ⟨30, .data⟩ (by simp) (by kernel_rfl)
            go_simp
            exact hK.out _ _ (Ext.refl _) f30
        case hend =>
          intro u w9 hx hall
          obtain ⟨g, rs, f31, hlen, hg, hr, ho, hf⟩ : RowI w9 w4.heap.size (u 31) := hall 31 (by decide)
          have x9 : Ext w4 w9 := by repeat' (first | with_reducible exact Ext.refl _ | with_reducible assumption | with_reducible apply Ext.alloc_r | with_reducible apply Ext.drew_r | with_reducible apply Ext.drewN_r | with_reducible refine Ext.trans ?_ ‹Ext _ _›)
          have HLEN := Lib.hid hlen
          have HI : Hid (KInvI w4 w9 g rs) := ⟨x9, hr, ho, hf⟩
          clear hall hr ho hf hlen HO HP HPW HV1 HV2 HVT HB4
          clear e0_0 e0_1 e1_0 e1_1 o__0 o__1 p__0 p__1
          obtain ⟨ru, hru⟩ : ∃ ru : Nat → Value, ru = u := ⟨_, rfl⟩
          clear hru ru
          have hg' : w4.heap.size ≤ g := hg
          have HX4 := Lib.hid (show Ext w w4 from (by repeat' (first | with_reducible exact Ext.refl _ | with_reducible assumption | with_reducible apply Ext.alloc_r | with_reducible apply Ext.drew_r | with_reducible apply Ext.drewN_r | with_reducible refine Ext.trans ?_ ‹Ext _ _›)))
          go_wp2_with fail
          go_loopw [11] (fun iv wr => ∃ i : Nat, i ≤ 12 ∧ iv = .int .i64 i ∧ KInvI w4 wr g rs) (fun iv _ => 12 - (intOf iv).toNat)
          case atStart => exact ⟨0, Nat.zero_le _, rfl, HI.out⟩
          case round =>
            clear HI
            obtain ⟨i, hi, rfl, hinv⟩ := hrel
            by_cases hlt : i < 12
            · obtain ⟨r, hr⟩ : ∃ r, rs[i]? = some r := ⟨_, List.getElem?_eq_getElem (by rw [HLEN.out]; exact hlt)⟩
              have hmem : r ∈ rs := List.mem_of_getElem? hr
              have hLb := (hinv.own r hmem).le
              have HC : Hid (∀ wr, KInvI w4 wr g rs → wr.cell? ⟨g, i * 2 + 1, none⟩ = some (.slice r.2.1 r.2.2.1 r.2.2.2) ∧ g < wr.heap.size) := fun wr h => by rw [Nat.mul_comm]; exact (h.cell hr).2
              have HST : Hid (∀ wr k, KInvI w4 wr g rs → k < r.2.2.1 → ∃ g' x, r.2.1 = some ⟨g', 0, none⟩ ∧ g' < wr.heap.size ∧ x < 4294967296 ∧ wr.cell? ⟨g', k, none⟩ = some (.int .u32 (x : Nat)) ∧ wr.frozen? ⟨g', k, none⟩ = false ∧
                ∀ v : Nat, v < 4294967296 → KInvI w4 (wr.setCell ⟨g', k, none⟩ (.int .u32 (v : Int))) g rs) := fun wr k h hk => h.step hmem hk
              have HI := Lib.hid hinv
              clear hinv hmem hr
              obtain ⟨s, A, L, c⟩ := r
              simp only at HC HST hLb
              go_wp2_with fail
              obtain ⟨wo, rfl⟩ : ∃ wo : World, wo = wr := ⟨_, rfl⟩
              go_loopw [12] (fun kv wr => ∃ k : Nat, k ≤ L ∧ kv = .int .i64 k ∧ KInvI w4 wr g rs) (fun kv _ => L - (intOf kv).toNat)
              case atStart => exact ⟨0, Nat.zero_le _, rfl, HI.out⟩
              case round =>
                clear HI
                obtain ⟨k, hk, rfl, hinv⟩ := hrel
                obtain ⟨hcl, hgl⟩ := HC.out wr hinv
                by_cases hkl : k < L
                · obtain ⟨g', x, rfl, hg'', hxb, hcell, hfr, hstep⟩ := HST.out wr k hinv hkl
                  have HS : Hid (∀ e : Int, e = (((x + 1) % 4294967296 : Nat) : Int) → KInvI w4 (wr.setCell ⟨g', k, none⟩ (.int .u32 e)) g rs) := fun e he => by subst he; exact hstep _ (Nat.mod_lt _ (by omega))
                  clear hstep hinv
                  go_wp2_with fail
                  go_roundw
                  case rel => exact ⟨k + 1, by omega, by go_num, HS.out _ (by go_num)⟩
                  case measure => simp [intOf]; omega
                · have hkk : k = L := by omega
                  have HI := Lib.hid hinv
                  clear hinv
                  go_wp2_with fail
                  go_roundw
                  case rel => exact ⟨i + 1, by omega, by go_num, HI.out⟩
                  case measure => simp [intOf]; omega
            · obtain rfl : i = 12 := by omega
              have hx := hinv.ext
              have HT1 : Hid (∀ w', Ext wr w' → Calls Try.prog 40 #[.slice A1 da.length c1, .slice B1 da.length d1] w' fun e w'' => e = .returned (.bool true) ∧ Ext w' w'') := fun w' h => same_any2 (HR1.out.below (HX4.out.trans (hx.trans h))) (R1.out.below (x4.trans (hx.trans h))) (by omega)
              have HT2 : Hid (∀ w', Ext wr w' → Calls Try.prog 40 #[.slice A2 db.length c2, .slice B2 db.length d2] w' fun e w'' => e = .returned (.bool true) ∧ Ext w' w'') := fun w' h => same_any2 (HR2.out.below (HX4.out.trans (hx.trans h))) (R2.out.below (hx.trans h)) (by omega)
              have HXX := Lib.hid (HX4.out.trans hx)
              have y0 := hx.cell HE0.out
              have y1 := hx.cell HE1.out
              clear hinv hx
              go_wp2_with fail
              refine (HT1.out _ (Ext.refl _)).mono ?_
              rintro e w16 ⟨rfl, x16⟩
              replace y1 := x16.cell y1
              go_wp2_with fail
              refine (HT2.out _ x16).mono ?_
              rintro e w17 ⟨rfl, x17⟩
              go_wp2_with fail
              go_ret
              exact ⟨rfl, (HXX.out.trans x16).trans x17⟩
  · have hf' : (decide (da.length ≤ 10) && (decide (db.length ≤ 10) && decide (da.length ≤ 10))) = false := by simpa using hf
    have HF := Lib.hid hf'
    clear hf hf' n1 n2 v1 v2 h1 h2
    go_enter Try.func10, Try.ntmps10
    go_wp2_with fail
    obtain ⟨w0, hw0⟩ : ∃ z : World, z = ((w.alloc (.cells #[.bool s1, .slice A1 da.length c1] 25)).alloc (.cells #[.bool s2, .slice A2 db.length c2] 25)) := ⟨_, rfl⟩
    rw [← hw0]
    have b0 := box_at w #[.bool s1, .slice A1 da.length c1] 25
    have b1 := box_at (w.alloc (.cells #[.bool s1, .slice A1 da.length c1] 25)) #[.bool s2, .slice A2 db.length c2] 25
    have hsz : w0.heap.size = w.heap.size + 1 + 1 := by rw [hw0]; simp
    rw [← hw0] at b1
    have y1 : Ext (w.alloc (.cells #[.bool s1, .slice A1 da.length c1] 25)) w0 := by rw [hw0]; exact Ext.alloc _ _
    have y0 : Ext w w0 := (Ext.alloc _ _).trans y1
    have x0 : Ext w w0 := y0
    have e0_0 := y1.cell (b0.1 0 (.bool s1) rfl)
    have e0_1 := y1.cell (b0.1 1 (.slice A1 da.length c1) rfl)
    have e1_0 := b1.1 0 (.bool s2) rfl
    have e1_1 := b1.1 1 (.slice A2 db.length c2) rfl
    simp only [World.size_alloc] at e1_0 e1_1
    clear hw0 b0 b1 y0 y1
    go_wp2_with fail
    refine (lawake_z _).mono ?_
    rintro e w1 ⟨rfl, x1⟩
    replace e0_0 := x1.cell e0_0
    replace e0_1 := x1.cell e0_1
    replace e1_0 := x1.cell e1_0
    replace e1_1 := x1.cell e1_1
    go_wp2_with fail
    refine (lfew_z (n := 10) (by omega) (by omega) (by omega)).mono ?_
    rintro e w2 ⟨rfl, x2⟩
    replace e0_0 := x2.cell e0_0
    replace e0_1 := x2.cell e0_1
    replace e1_0 := x2.cell e1_0
    replace e1_1 := x2.cell e1_1
    rw [HF.out]
    clear hsz
    go_wp2_with fail
    refine (lawake_z _).mono ?_
    rintro e w3 ⟨rfl, x3⟩
    replace e0_0 := x3.cell e0_0
    replace e0_1 := x3.cell e0_1
    replace e1_0 := x3.cell e1_0
    replace e1_1 := x3.cell e1_1
    go_wp2_with fail
    go_ret
    exact ⟨rfl, (by repeat' (first | with_reducible exact Ext.refl _ | with_reducible assumption | with_reducible apply Ext.alloc_r | with_reducible apply Ext.drew_r | with_reducible apply Ext.drewN_r | with_reducible refine Ext.trans ?_ ‹Ext _ _›))⟩
end Go.Proofs.Ytcccabgeoaidjaa
