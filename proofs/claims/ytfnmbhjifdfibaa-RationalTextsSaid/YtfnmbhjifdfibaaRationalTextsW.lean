/- The walk of RationalTexts. -/
import Derived.StillTail
import Derived.Test.YtfnmbhjifdfibaaLaw5b
import Derived.Test.YtfnmbhjifdfibaaRefY
import Derived.Test.YtfnmbhjifdfibaaTextB
import Derived.Test.YtfnmbhjifdfibaaTextC
import Derived.Test.YtfnmbhjifdfibaaTail
namespace Go.Proofs.Ytfnmbhjifdfibaa
open Go.RowKit
theorem lof_ro {w : World} {g : Nat} {s1 : Bool} {A1 B1 : Option Addr} {c1 d1 L1 M1 N K : Nat} {q : Rat} (h : RO w g s1 A1 c1 L1 B1 d1 M1 N q) (hN : 32 * N ≤ K) (hK : K ≤ 1000000000) (hK1 : 1 ≤ K) :
    Calls Try.prog 16 #[Value.agg #[.bool s1, .slice A1 L1 c1, .slice B1 M1 d1]] w (RetQ w K q) := by
  have hl1 : L1 ≤ N := by have h5 := h.num.len; have h6 : L1 = dl q.num.natAbs := h5; have h7 := h.dn; omega
  have hl2 : M1 ≤ N := by have h5 := h.len; have h6 : M1 = dl q.den := h5; have h7 := h.dd; omega
  have h5 := lof5 (x := q.num) (y := q.den) (K := K) (show RW w s1 A1 c1 L1 B1 d1 M1 q.num q.den from ⟨h.num.zv, by rw [h.len]; exact h.den.nv⟩) (by omega) (by omega) hK hK1
  rwa [Rat.mkRat_self] at h5
theorem rv_zero (w : World) : RV w false none 0 0 none 0 0 1 0 :=
  ⟨⟨0, 0, zv_zero w, (zv_zero w).nv, (Rat.zero_mkRat 0).symm, Nat.zero_le _, Nat.zero_le _⟩, Nat.le_refl _⟩
theorem rv_dl {w : World} {s : Bool} {A B : Option Addr} {c d L M N : Nat} {q : Rat} (h : RV w s A c L B d M N q) : dl q.num.natAbs ≤ N ∧ dl q.den ≤ N := by
  obtain ⟨x, y, _, _, rfl, h1, h2⟩ := h.ex
  rcases Nat.eq_zero_or_pos y with h0 | h0
  · rw [h0, Rat.mkRat_zero]
    have := h.one
    exact ⟨by show dl 0 ≤ _; exact Nat.zero_le _, by show dl 1 ≤ _; rw [dl_one]; exact this⟩
  · exact ⟨Nat.le_trans (dl_mono (rat_num_le h0)) h1, Nat.le_trans (dl_mono (rat_den_le h0)) h2⟩
theorem fmt_same {w : World} {g1 h1 : Int} {A1 B1 : Option Addr} {c1 d1 L1 M1 K1 : Nat} {q1 : Rat} {t : ByteArray} (z1 : QR w g1 A1 c1 L1 h1 B1 d1 M1 K1 q1) (hs1 : K1 ≤ 1000000) (ht : bs t = fmtQ q1) :
    Calls Try.prog 55 #[Value.agg #[Value.int .i64 g1, Value.slice A1 L1 c1, Value.int .i64 h1, Value.slice B1 M1 d1]] w fun e w' => e = .returned (.string t) ∧ Ext w w' := by
  refine (qformat_r z1 hs1).mono ?_
  rintro e w' ⟨s, rfl, hs, hx⟩
  rw [bs_inj (hs.trans ht.symm)]
  exact ⟨rfl, hx⟩
theorem den_fmt80 {q : Rat} (h : (fmtQ q).length ≤ 80) : dl q.den ≤ 9 := by
  unfold fmtQ at h
  rw [List.length_append] at h
  split at h
  · rename_i hd
    rw [hd]
    exact dl_le (by unfold B32; omega)
  · rw [List.length_cons] at h
    have h5 := dl_fmt80 (x := (q.den : Int)) (by omega)
    rwa [Int.natAbs_natCast] at h5
theorem toList_beq (s : ByteArray) : (s.toList == s.toList) = true := by simp
set_option maxHeartbeats 40000000 in
set_option maxRecDepth 100000 in
theorem rationalTexts_walk {w : World} {s1 : Bool} {A1 B1 : Option Addr} {c1 L1 d1 M1 : Nat} {x1 : Int} {y1 : Nat} {s : ByteArray} (hm : ∃ m, w.cell? ⟨0, 0, none⟩ = some (.int .i64 m)) (h1 : RW w s1 A1 c1 L1 B1 d1 M1 x1 y1) (_hs : s.size ≤ maxLen) :
    Calls Try.prog 11 #[Value.agg #[Value.bool s1, Value.slice A1 L1 c1, Value.slice B1 M1 d1], .string s] w fun e w' => e = .returned (.bool true) ∧ Ext w w' := by
  have pa1 := h1.num.nv.cap
  have pb1 := h1.den.cap
  have qa1 := h1.num.nv.le
  have qb1 := h1.den.le
  have HM : Hid (∀ w', Ext w w' → ∃ m, w'.cell? ⟨0, 0, none⟩ = some (.int .i64 m)) := fun w' hx => hm.imp fun m h => hx.cell h
  clear hm
  by_cases hf : L1 ≤ 6 ∧ M1 ≤ 6
  · have HF : Hid (((decide (L1 ≤ 6) && (decide (M1 ≤ 6) && decide (L1 ≤ 6))) && (decide (M1 ≤ 6) && (decide (L1 ≤ 6) && decide (M1 ≤ 6)))) = true) := by show _ = _; simp only [decide_eq_true_eq, Bool.and_eq_true]; omega
    by_cases hl : s.size ≤ 80
    · obtain ⟨u1, u2⟩ := rv_dl (h1.rv (N := 6) (by omega) (by omega) (by omega))
      have e1 := h1.rv (N := 6) (by omega) (by omega) (by omega)
      have HO1 : Hid (∀ w', Ext w w' → Calls Try.prog 16 #[Value.agg #[Value.bool s1, Value.slice A1 L1 c1, Value.slice B1 M1 d1]] w' (RetQ w' 192 (mkRat x1 y1))) := fun w' hx => lof5 (h1.ext hx) (by omega) (by omega) (by omega) (by omega)
      have hs9 : ¬ (80 : Int) < (s.size : Int) := by omega
      generalize mkRat x1 y1 = q1 at *
      clear hf h1
      go_enter Try.func11, Try.ntmps11
      go_wp2_with fail
      obtain ⟨w0, hw0⟩ : ∃ z : World, z = (w.alloc (.cells #[.bool s1, .slice A1 L1 c1, .slice B1 M1 d1] 27)) := ⟨_, rfl⟩
      rw [← hw0]
      have b0 := box_at w #[.bool s1, .slice A1 L1 c1, .slice B1 M1 d1] 27
      have hsz : w0.heap.size = w.heap.size + 1 := by rw [hw0]; simp
      rw [← hw0] at b0
      have y0 : Ext w w0 := by rw [hw0]; exact Ext.alloc _ _
      have x0 : Ext w w0 := y0
      have e0_0 := b0.1 0 (.bool s1) rfl
      have e0_1 := b0.1 1 (.slice A1 L1 c1) rfl
      have e0_2 := b0.1 2 (.slice B1 M1 d1) rfl
      clear hw0 b0 y0
      go_wp2_with fail
      refine (awake5 _).mono ?_
      rintro e w1 ⟨rfl, x1⟩
      replace e0_0 := x1.cell e0_0
      replace e0_1 := x1.cell e0_1
      replace e0_2 := x1.cell e0_2
      go_wp2_with fail
      refine (few5 (n := 6) (by omega) (by omega) (by omega) (by omega) (by omega) (by omega)).mono ?_
      rintro e w2 ⟨rfl, x2⟩
      replace e0_0 := x2.cell e0_0
      replace e0_1 := x2.cell e0_1
      replace e0_2 := x2.cell e0_2
      rw [HF.out]
      clear hsz
      go_wp2_with fail
      refine (rformat_r (e1.ext (by repeat' (first | with_reducible exact Ext.refl _ | with_reducible assumption | with_reducible apply Ext.alloc_r | with_reducible apply Ext.drew_r | with_reducible apply Ext.drewN_r | with_reducible refine Ext.trans ?_ ‹Ext _ _›))) (by omega)).mono ?_
      rintro e w3 ⟨tt, rfl, t, x3⟩
      replace e0_0 := x3.cell e0_0
      replace e0_1 := x3.cell e0_1
      replace e0_2 := x3.cell e0_2
      have HT := Lib.hid t
      have hts : tt.size ≤ 1000000 := by rw [← bs_length, t]; have h5 := fmtQ_len u1 u2; omega
      clear t
      go_wp2_with fail
      refine (rparse_yes (N := 6) hts (HM.out _ (by repeat' (first | with_reducible exact Ext.refl _ | with_reducible assumption | with_reducible apply Ext.alloc_r | with_reducible apply Ext.drew_r | with_reducible apply Ext.drewN_r | with_reducible refine Ext.trans ?_ ‹Ext _ _›))) HT.out u1 u2 (by omega) (by omega)).mono ?_
      rintro e w4 ⟨sb, Ab, cb, Lb, Bb, db, Mb, rfl, b, x4⟩
      replace e0_0 := x4.cell e0_0
      replace e0_1 := x4.cell e0_1
      replace e0_2 := x4.cell e0_2
      have te0_0 := fun o => (Ext.alloc w4 o).cell e0_0
      have te0_1 := fun o => (Ext.alloc w4 o).cell e0_1
      have te0_2 := fun o => (Ext.alloc w4 o).cell e0_2
      go_wp2_with fail
      clear te0_0 te0_1 te0_2
      obtain ⟨w5, hw⟩ : ∃ z : World, z = (w4.alloc (.cells #[.bool sb, .slice Ab Lb cb, .slice Bb Mb db] 27)) := ⟨_, rfl⟩
      rw [← hw]
      have x5 : Ext w4 w5 := by rw [hw]; exact Ext.alloc _ _
      have bb := box_at w4 #[.bool sb, .slice Ab Lb cb, .slice Bb Mb db] 27
      rw [← hw] at bb
      replace e0_0 := x5.cell e0_0
      replace e0_1 := x5.cell e0_1
      replace e0_2 := x5.cell e0_2
      have b_0 := bb.1 0 (.bool sb) rfl
      have b_1 := bb.1 1 (.slice Ab Lb cb) rfl
      have b_2 := bb.1 2 (.slice Bb Mb db) rfl
      clear hw bb
      by_cases hy : ∃ q, bs s = fmtQ q
      · obtain ⟨q, hq⟩ := hy
        have hsl : (fmtQ q).length ≤ 80 := by rw [← hq, bs_length]; exact hl
        have hb3 : dl q.num.natAbs ≤ 9 := dl_fmt80 (by unfold fmtQ at hsl; rw [List.length_append] at hsl; omega)
        have hb4 : dl q.den ≤ 9 := den_fmt80 hsl
        have HQS := Lib.hid hq
        clear hq hsl
        go_wp2_with fail
        refine (rparse_yes (N := 9) (by omega) (HM.out _ (by repeat' (first | with_reducible exact Ext.refl _ | with_reducible assumption | with_reducible apply Ext.alloc_r | with_reducible apply Ext.drew_r | with_reducible apply Ext.drewN_r | with_reducible refine Ext.trans ?_ ‹Ext _ _›))) HQS.out hb3 hb4 (by omega) (by omega)).mono ?_
        rintro e w6 ⟨sc, Ac, cc, Lc, Bc, dc, Mc, rfl, c, x6⟩
        replace e0_0 := x6.cell e0_0
        replace e0_1 := x6.cell e0_1
        replace e0_2 := x6.cell e0_2
        replace b_0 := x6.cell b_0
        replace b_1 := x6.cell b_1
        replace b_2 := x6.cell b_2
        have te0_0 := fun o => (Ext.alloc w6 o).cell e0_0
        have te0_1 := fun o => (Ext.alloc w6 o).cell e0_1
        have te0_2 := fun o => (Ext.alloc w6 o).cell e0_2
        have tb_0 := fun o => (Ext.alloc w6 o).cell b_0
        have tb_1 := fun o => (Ext.alloc w6 o).cell b_1
        have tb_2 := fun o => (Ext.alloc w6 o).cell b_2
        go_wp2_with fail
        clear te0_0 te0_1 te0_2 tb_0 tb_1 tb_2
        obtain ⟨w7, hw⟩ : ∃ z : World, z = (w6.alloc (.cells #[.bool sc, .slice Ac Lc cc, .slice Bc Mc dc] 27)) := ⟨_, rfl⟩
        rw [← hw]
        have x7 : Ext w6 w7 := by rw [hw]; exact Ext.alloc _ _
        have bb := box_at w6 #[.bool sc, .slice Ac Lc cc, .slice Bc Mc dc] 27
        rw [← hw] at bb
        replace e0_0 := x7.cell e0_0
        replace e0_1 := x7.cell e0_1
        replace e0_2 := x7.cell e0_2
        replace b_0 := x7.cell b_0
        replace b_1 := x7.cell b_1
        replace b_2 := x7.cell b_2
        have c_0 := bb.1 0 (.bool sc) rfl
        have c_1 := bb.1 1 (.slice Ac Lc cc) rfl
        have c_2 := bb.1 2 (.slice Bc Mc dc) rfl
        clear hw bb
        have htl := toList_beq tt
        go_wp2_with fail
        have HK : Hid (∀ w', Ext w7 w' → Ext w7 w' ∧ w'.cell? ⟨w.heap.size, 0, none⟩ = some (.bool s1) ∧ w'.cell? ⟨w.heap.size, 1, none⟩ = some (.slice A1 L1 c1) ∧ w'.cell? ⟨w.heap.size, 2, none⟩ = some (.slice B1 M1 d1) ∧ w'.cell? ⟨w4.heap.size, 0, none⟩ = some (.bool sb) ∧ w'.cell? ⟨w4.heap.size, 1, none⟩ = some (.slice Ab Lb cb) ∧ w'.cell? ⟨w4.heap.size, 2, none⟩ = some (.slice Bb Mb db) ∧ w'.cell? ⟨w6.heap.size, 0, none⟩ = some (.bool sc) ∧ w'.cell? ⟨w6.heap.size, 1, none⟩ = some (.slice Ac Lc cc) ∧ w'.cell? ⟨w6.heap.size, 2, none⟩ = some (.slice Bc Mc dc)) := fun w' hk => ⟨hk, hk.cell e0_0, hk.cell e0_1, hk.cell e0_2, hk.cell b_0, hk.cell b_1, hk.cell b_2, hk.cell c_0, hk.cell c_1, hk.cell c_2⟩
        first
        | go_region_held3 (fun w' => Ext w7 w' ∧ w'.cell? ⟨w.heap.size, 0, none⟩ = some (.bool s1) ∧ w'.cell? ⟨w.heap.size, 1, none⟩ = some (.slice A1 L1 c1) ∧ w'.cell? ⟨w.heap.size, 2, none⟩ = some (.slice B1 M1 d1) ∧ w'.cell? ⟨w4.heap.size, 0, none⟩ = some (.bool sb) ∧ w'.cell? ⟨w4.heap.size, 1, none⟩ = some (.slice Ab Lb cb) ∧ w'.cell? ⟨w4.heap.size, 2, none⟩ = some (.slice Bb Mb db) ∧ w'.cell? ⟨w6.heap.size, 0, none⟩ = some (.bool sc) ∧ w'.cell? ⟨w6.heap.size, 1, none⟩ = some (.slice Ac Lc cc) ∧ w'.cell? ⟨w6.heap.size, 2, none⟩ = some (.slice Bc Mc dc))
            ((with_reducible refine HK.out _ ?_; (repeat' (first | with_reducible exact Ext.refl _ | with_reducible assumption | with_reducible apply Ext.alloc_r | with_reducible apply Ext.drew_r | with_reducible apply Ext.drewN_r | with_reducible refine Ext.trans ?_ ‹Ext _ _›))))
            (first
              | (go_at_call_of 21 (#[Value.agg #[Value.bool sb, Value.slice Ab Lb cb, Value.slice Bb Mb db], Value.agg #[Value.int IntKind.i64 gob, Value.slice Aob Lob cob, Value.int IntKind.i64 hob, Value.slice Bob Mob dob]]); have hgd := ob; clear hgd; refine (lis5 (b.ext (by repeat' (first | with_reducible exact Ext.refl _ | with_reducible assumption | with_reducible apply Ext.alloc_r | with_reducible apply Ext.drew_r | with_reducible apply Ext.drewN_r | with_reducible refine Ext.trans ?_ ‹Ext _ _›))) (ob.ext (by repeat' (first | with_reducible exact Ext.refl _ | with_reducible assumption | with_reducible apply Ext.alloc_r | with_reducible apply Ext.drew_r | with_reducible apply Ext.drewN_r | with_reducible refine Ext.trans ?_ ‹Ext _ _›))) (rfl) (by omega)).mono ?_; rintro e w11 ⟨rfl, x11⟩)
              | (go_at_call_of 16 (#[Value.agg #[Value.bool s1, Value.slice A1 L1 c1, Value.slice B1 M1 d1]]); have hgd := oa; clear hgd; refine (HO1.out _ (by repeat' (first | with_reducible exact Ext.refl _ | with_reducible assumption | with_reducible apply Ext.alloc_r | with_reducible apply Ext.drew_r | with_reducible apply Ext.drewN_r | with_reducible refine Ext.trans ?_ ‹Ext _ _›))).mono ?_; rintro e w10 ⟨gob, Aob, cob, Lob, hob, Bob, dob, Mob, rfl, ob, x10⟩)
              | (go_at_call_of 55 (#[Value.agg #[Value.int IntKind.i64 goa, Value.slice Aoa Loa coa, Value.int IntKind.i64 hoa, Value.slice Boa Moa doa]]); have hgd := oa; clear hgd; refine (fmt_same (oa.ext (by repeat' (first | with_reducible exact Ext.refl _ | with_reducible assumption | with_reducible apply Ext.alloc_r | with_reducible apply Ext.drew_r | with_reducible apply Ext.drewN_r | with_reducible refine Ext.trans ?_ ‹Ext _ _›))) (by omega) HT.out).mono ?_; rintro e w9 ⟨rfl, x9⟩)
              | (go_at_call_of 16 (#[Value.agg #[Value.bool s1, Value.slice A1 L1 c1, Value.slice B1 M1 d1]]); refine (HO1.out _ (by repeat' (first | with_reducible exact Ext.refl _ | with_reducible assumption | with_reducible apply Ext.alloc_r | with_reducible apply Ext.drew_r | with_reducible apply Ext.drewN_r | with_reducible refine Ext.trans ?_ ‹Ext _ _›))).mono ?_; rintro e w8 ⟨goa, Aoa, coa, Loa, hoa, Boa, doa, Moa, rfl, oa, x8⟩))
        | fail
        clear HK
        have xh : Ext w7 w11 := (by repeat' (first | with_reducible exact Ext.refl _ | with_reducible assumption | with_reducible apply Ext.alloc_r | with_reducible apply Ext.drew_r | with_reducible apply Ext.drewN_r | with_reducible refine Ext.trans ?_ ‹Ext _ _›))
        replace e0_0 := xh.cell e0_0
        replace e0_1 := xh.cell e0_1
        replace e0_2 := xh.cell e0_2
        replace b_0 := xh.cell b_0
        replace b_1 := xh.cell b_1
        replace b_2 := xh.cell b_2
        replace c_0 := xh.cell c_0
        replace c_1 := xh.cell c_1
        replace c_2 := xh.cell c_2
        clear xh
        clear htl
        have hsl := toList_beq s
        go_wp2_with fail
        go_cut [4] (fun s4 wx => s4 = Value.bool true ∧ Ext w11 wx)
        case first =>
          have HKS : Hid (∀ w', Ext w11 w' → (w'.cell? ⟨w6.heap.size, 0, none⟩ = some (.bool sc) ∧ w'.cell? ⟨w6.heap.size, 1, none⟩ = some (.slice Ac Lc cc) ∧ w'.cell? ⟨w6.heap.size, 2, none⟩ = some (.slice Bc Mc dc))) := fun w' hk => ⟨hk.cell c_0, hk.cell c_1, hk.cell c_2⟩
          refine wp_region_tail 24 (fun w' => w'.cell? ⟨w6.heap.size, 0, none⟩ = some (.bool sc) ∧ w'.cell? ⟨w6.heap.size, 1, none⟩ = some (.slice Ac Lc cc) ∧ w'.cell? ⟨w6.heap.size, 2, none⟩ = some (.slice Bc Mc dc)) (by kernel_rfl) ?_ (fun hHeld inv => ?_)
          · (with_reducible refine HKS.out _ ?_; (repeat' (first | with_reducible exact Ext.refl _ | with_reducible assumption | with_reducible apply Ext.alloc_r | with_reducible apply Ext.drew_r | with_reducible apply Ext.drewN_r | with_reducible refine Ext.trans ?_ ‹Ext _ _›)))
          refine wpAnyT_take (i := 0) (v := ?tvy0) rfl (by kernel_rfl) (by kernel_rfl) (by kernel_rfl) (by kernel_rfl) inv (fun _ _ _ h => h) (Or.inl ⟨by rfl, ?thy0⟩) (by assumption) (fun inv => ?try0)
          case thy0 =>
            intro w5 hSw
            (try dsimp only at hSw)
            go_simp
            (try with_reducible rfl)
          try simp only [Act.put, List.setIfInBounds_toArray]
          refine wpAnyT_take (i := 1) (v := ?tvy1) rfl (by kernel_rfl) (by kernel_rfl) (by kernel_rfl) (by kernel_rfl) inv (fun _ _ _ h => h) (Or.inl ⟨by rfl, ?thy1⟩) (by assumption) (fun inv => ?try1)
          case thy1 =>
            intro w5 hSw
            (try dsimp only at hSw)
            go_simp
            (try with_reducible rfl)
          try simp only [Act.put]
          refine wpAnyT_take (i := 2) (v := ?tvy2) rfl (by kernel_rfl) (by kernel_rfl) (by kernel_rfl) (by kernel_rfl) inv (fun _ _ _ h => h) (Or.inl ⟨by rfl, ?thy2⟩) (by assumption) (fun inv => ?try2)
          case thy2 =>
            intro w5 hSw
            (try dsimp only at hSw)
            go_simp
            (try with_reducible rfl)
          try simp only [Act.put]
          refine wpAnyT_take (i := 3) (v := ?tvy3) rfl (by kernel_rfl) (by kernel_rfl) (by kernel_rfl) (by kernel_rfl) inv (fun _ _ _ h => h) (Or.inl ⟨by rfl, ?thy3⟩) (by assumption) (fun inv => ?try3)
          case thy3 =>
            intro w5 hSw
            (try dsimp only at hSw)
            go_simp
            (try with_reducible rfl)
          try simp only [Act.put]
          refine wpAnyT_take (i := 6) (v := ?tvy6) rfl (by kernel_rfl) (by kernel_rfl) (by kernel_rfl) (by kernel_rfl) inv (fun _ _ _ h => h) (Or.inl ⟨by rfl, ?thy6⟩) (by assumption) (fun inv => ?try6)
          case thy6 =>
            intro w5 hSw
            (try dsimp only at hSw)
            go_simp
            (try with_reducible rfl)
          try simp only [Act.put]
          refine wpAnyT_head (i := 4) (by kernel_rfl) rfl (by kernel_rfl) inv (fun K hK => ?_)
          clear inv
          go_simp
          (go_at_call 16; refine (lof_ro (K := 288) (c.ext (by repeat' (first | with_reducible exact Ext.refl _ | with_reducible assumption | with_reducible apply Ext.alloc_r | with_reducible apply Ext.drew_r | with_reducible apply Ext.drewN_r | with_reducible refine Ext.trans ?_ ‹Ext _ _›))) (by omega) (by omega) (by omega)).mono ?_; rintro e w91 ⟨goc, Aoc, coc, Loc, hoc, Boc, doc, Moc, rfl, oc, x91⟩)
          refine hK.out _ _ ?_ (fun hHeld inv => ?_)
          · clear hK; (try dsimp only)
            (with_reducible refine HKS.out _ ?_; (repeat' (first | with_reducible exact Ext.refl _ | with_reducible assumption | with_reducible apply Ext.alloc_r | with_reducible apply Ext.drew_r | with_reducible apply Ext.drewN_r | with_reducible refine Ext.trans ?_ ‹Ext _ _›)))
          clear hK K
          try simp only [Act.put, List.setIfInBounds_toArray, List.set_cons_zero, List.set_cons_succ]
          refine wpAnyT_head (i := 5) (by kernel_rfl) rfl (by kernel_rfl) inv (fun K hK => ?_)
          clear inv
          go_simp
          (go_at_call 55; refine (fmt_same (oc.ext (by repeat' (first | with_reducible exact Ext.refl _ | with_reducible assumption | with_reducible apply Ext.alloc_r | with_reducible apply Ext.drew_r | with_reducible apply Ext.drewN_r | with_reducible refine Ext.trans ?_ ‹Ext _ _›))) (by omega) HQS.out).mono ?_; rintro e w92 ⟨rfl, x92⟩)
          refine hK.out _ _ ?_ (fun hHeld inv => ?_)
          · clear hK; (try dsimp only)
            (with_reducible refine HKS.out _ ?_; (repeat' (first | with_reducible exact Ext.refl _ | with_reducible assumption | with_reducible apply Ext.alloc_r | with_reducible apply Ext.drew_r | with_reducible apply Ext.drewN_r | with_reducible refine Ext.trans ?_ ‹Ext _ _›)))
          clear hK K
          try simp only [Act.put, List.setIfInBounds_toArray, List.set_cons_zero, List.set_cons_succ]
          refine wpAnyT_take (i := 7) (v := ?tvy7) rfl (by kernel_rfl) (by kernel_rfl) (by kernel_rfl) (by kernel_rfl) inv (fun _ _ _ h => h) (Or.inl ⟨by rfl, ?thy7⟩) (by assumption) (fun inv => ?try7)
          case thy7 =>
            intro w5 hSw
            (try dsimp only at hSw)
            go_simp
            (try with_reducible rfl)
          try simp only [Act.put, List.setIfInBounds_toArray]
          refine wpAnyT_take (i := 8) (v := ?tvy8) rfl (by kernel_rfl) (by kernel_rfl) (by kernel_rfl) (by kernel_rfl) inv (fun _ _ _ h => h) (Or.inl ⟨by rfl, ?thy8⟩) (by assumption) (fun inv => ?try8)
          case thy8 =>
            intro w5 hSw
            (try dsimp only at hSw)
            go_simp
            (try with_reducible rfl)
          try simp only [Act.put]
          refine wpAnyT_take (i := 9) (v := ?tvy9) rfl (by kernel_rfl) (by kernel_rfl) (by kernel_rfl) (by kernel_rfl) inv (fun _ _ _ h => h) (Or.inl ⟨by rfl, ?thy9⟩) (by assumption) (fun inv => ?try9)
          case thy9 =>
            intro w5 hSw
            (try dsimp only at hSw)
            go_simp
            (try with_reducible rfl)
          try simp only [Act.put]
          refine wpAnyT_take (i := 10) (v := ?tvy10) rfl (by kernel_rfl) (by kernel_rfl) (by kernel_rfl) (by kernel_rfl) inv (fun _ _ _ h => h) (Or.inl ⟨by rfl, ?thy10⟩) (by assumption) (fun inv => ?try10)
          case thy10 =>
            intro w5 hSw
            (try dsimp only at hSw)
            go_simp
            (try with_reducible rfl)
          try simp only [Act.put]
          refine wpAnyT_take (i := 11) (v := ?tvy11) rfl (by kernel_rfl) (by kernel_rfl) (by kernel_rfl) (by kernel_rfl) inv (fun _ _ _ h => h) (Or.inl ⟨by rfl, ?thy11⟩) (by assumption) (fun inv => ?try11)
          case thy11 =>
            intro w5 hSw
            (try dsimp only at hSw)
            go_simp
            (try with_reducible rfl)
          try simp only [Act.put]
          refine wpAnyT_head (i := 12) (by kernel_rfl) rfl (by kernel_rfl) inv (fun K hK => ?_)
          clear inv
          go_simp
          (go_at_call 16; refine (lof_ro (K := 288) (c.ext (by repeat' (first | with_reducible exact Ext.refl _ | with_reducible assumption | with_reducible apply Ext.alloc_r | with_reducible apply Ext.drew_r | with_reducible apply Ext.drewN_r | with_reducible refine Ext.trans ?_ ‹Ext _ _›))) (by omega) (by omega) (by omega)).mono ?_; rintro e w93 ⟨god, Aod, cod, Lod, hod, Bod, dod, Mod, rfl, od, x93⟩)
          refine hK.out _ _ ?_ (fun hHeld inv => ?_)
          · clear hK; (try dsimp only)
            (with_reducible refine HKS.out _ ?_; (repeat' (first | with_reducible exact Ext.refl _ | with_reducible assumption | with_reducible apply Ext.alloc_r | with_reducible apply Ext.drew_r | with_reducible apply Ext.drewN_r | with_reducible refine Ext.trans ?_ ‹Ext _ _›)))
          clear hK K
          try simp only [Act.put, List.setIfInBounds_toArray, List.set_cons_zero, List.set_cons_succ]
          refine wpAnyT_head (i := 13) (by kernel_rfl) rfl (by kernel_rfl) inv (fun K hK => ?_)
          clear inv
          go_simp
          (go_at_call 21; refine (lis5 (c.ext (by repeat' (first | with_reducible exact Ext.refl _ | with_reducible assumption | with_reducible apply Ext.alloc_r | with_reducible apply Ext.drew_r | with_reducible apply Ext.drewN_r | with_reducible refine Ext.trans ?_ ‹Ext _ _›))) (od.ext (by repeat' (first | with_reducible exact Ext.refl _ | with_reducible assumption | with_reducible apply Ext.alloc_r | with_reducible apply Ext.drew_r | with_reducible apply Ext.drewN_r | with_reducible refine Ext.trans ?_ ‹Ext _ _›))) rfl (by omega)).mono ?_; rintro e w94 ⟨rfl, x94⟩)
          refine hK.out _ _ ?_ (fun hHeld inv => ?_)
          · clear hK; (try dsimp only)
            (with_reducible refine HKS.out _ ?_; (repeat' (first | with_reducible exact Ext.refl _ | with_reducible assumption | with_reducible apply Ext.alloc_r | with_reducible apply Ext.drew_r | with_reducible apply Ext.drewN_r | with_reducible refine Ext.trans ?_ ‹Ext _ _›)))
          clear hK K
          try simp only [Act.put, List.setIfInBounds_toArray, List.set_cons_zero, List.set_cons_succ]
          refine wpAnyT_take (i := 14) (v := ?tvy14) rfl (by kernel_rfl) (by kernel_rfl) (by kernel_rfl) (by kernel_rfl) inv (fun _ _ _ h => h) (Or.inl ⟨by rfl, ?thy14⟩) (by assumption) (fun inv => ?try14)
          case thy14 =>
            intro w5 hSw
            (try dsimp only at hSw)
            go_simp
            (try with_reducible rfl)
          try simp only [Act.put, List.setIfInBounds_toArray]
          refine wpAnyT_take (i := 15) (v := ?tvy15) rfl (by kernel_rfl) (by kernel_rfl) (by kernel_rfl) (by kernel_rfl) inv (fun _ _ _ h => h) (Or.inl ⟨by rfl, ?thy15⟩) (by assumption) (fun inv => ?try15)
          case thy15 =>
            intro w5 hSw
            (try dsimp only at hSw)
            go_simp
            (try with_reducible rfl)
          try simp only [Act.put]
          refine wpAnyT_head (i := 16) (by kernel_rfl) rfl (by kernel_rfl) inv (fun K hK => ?_)
          clear inv
          go_simp
          refine hK.out _ _ ?_ (fun hHeld inv => ?_)
          · clear hK; (try dsimp only)
            (with_reducible refine HKS.out _ ?_; (repeat' (first | with_reducible exact Ext.refl _ | with_reducible assumption | with_reducible apply Ext.alloc_r | with_reducible apply Ext.drew_r | with_reducible apply Ext.drewN_r | with_reducible refine Ext.trans ?_ ‹Ext _ _›)))
          clear hK K
          try simp only [Act.put, List.setIfInBounds_toArray, List.set_cons_zero, List.set_cons_succ]
          refine wpAnyT_head (i := 17) (by kernel_rfl) rfl (by kernel_rfl) inv (fun K hK => ?_)
          clear inv
          go_simp
          refine hK.out _ _ ?_ (fun hHeld inv => ?_)
          · clear hK; (try dsimp only)
            (with_reducible refine HKS.out _ ?_; (repeat' (first | with_reducible exact Ext.refl _ | with_reducible assumption | with_reducible apply Ext.alloc_r | with_reducible apply Ext.drew_r | with_reducible apply Ext.drewN_r | with_reducible refine Ext.trans ?_ ‹Ext _ _›)))
          clear hK K
          try simp only [Act.put, List.setIfInBounds_toArray, List.set_cons_zero, List.set_cons_succ]
          refine wpAnyT_head (i := 18) (by kernel_rfl) rfl (by kernel_rfl) inv (fun K hK => ?_)
          clear inv
          go_simp
          refine hK.out _ _ ?_ (fun hHeld inv => ?_)
          · clear hK; (try dsimp only)
            (with_reducible refine HKS.out _ ?_; (repeat' (first | with_reducible exact Ext.refl _ | with_reducible assumption | with_reducible apply Ext.alloc_r | with_reducible apply Ext.drew_r | with_reducible apply Ext.drewN_r | with_reducible refine Ext.trans ?_ ‹Ext _ _›)))
          clear hK K
          try simp only [Act.put, List.setIfInBounds_toArray, List.set_cons_zero, List.set_cons_succ]
          refine wpAnyT_head (i := 19) (by kernel_rfl) rfl (by kernel_rfl) inv (fun K hK => ?_)
          clear inv
          go_simp
          refine hK.out _ _ ?_ (fun hHeld inv => ?_)
          · clear hK; (try dsimp only)
            (with_reducible refine HKS.out _ ?_; (repeat' (first | with_reducible exact Ext.refl _ | with_reducible assumption | with_reducible apply Ext.alloc_r | with_reducible apply Ext.drew_r | with_reducible apply Ext.drewN_r | with_reducible refine Ext.trans ?_ ‹Ext _ _›)))
          clear hK K
          try simp only [Act.put, List.setIfInBounds_toArray, List.set_cons_zero, List.set_cons_succ]
          refine wpAnyT_head (i := 20) (by kernel_rfl) rfl (by kernel_rfl) inv (fun K hK => ?_)
          clear inv
          go_simp
          refine hK.out _ _ ?_ (fun hHeld inv => ?_)
          · clear hK; (try dsimp only)
            (with_reducible refine HKS.out _ ?_; (repeat' (first | with_reducible exact Ext.refl _ | with_reducible assumption | with_reducible apply Ext.alloc_r | with_reducible apply Ext.drew_r | with_reducible apply Ext.drewN_r | with_reducible refine Ext.trans ?_ ‹Ext _ _›)))
          clear hK K
          try simp only [Act.put, List.setIfInBounds_toArray, List.set_cons_zero, List.set_cons_succ]
          refine wpAnyT_head (i := 21) (by kernel_rfl) rfl (by kernel_rfl) inv (fun K hK => ?_)
          clear inv
          go_simp
          refine hK.out _ _ ?_ (fun hHeld inv => ?_)
          · clear hK; (try dsimp only)
            (with_reducible refine HKS.out _ ?_; (repeat' (first | with_reducible exact Ext.refl _ | with_reducible assumption | with_reducible apply Ext.alloc_r | with_reducible apply Ext.drew_r | with_reducible apply Ext.drewN_r | with_reducible refine Ext.trans ?_ ‹Ext _ _›)))
          clear hK K
          try simp only [Act.put, List.setIfInBounds_toArray, List.set_cons_zero, List.set_cons_succ]
          refine wpAnyT_head (i := 22) (by kernel_rfl) rfl (by kernel_rfl) inv (fun K hK => ?_)
          clear inv
          go_simp
          refine hK.out _ _ ?_ (fun hHeld inv => ?_)
          · clear hK; (try dsimp only)
            (with_reducible refine HKS.out _ ?_; (repeat' (first | with_reducible exact Ext.refl _ | with_reducible assumption | with_reducible apply Ext.alloc_r | with_reducible apply Ext.drew_r | with_reducible apply Ext.drewN_r | with_reducible refine Ext.trans ?_ ‹Ext _ _›)))
          clear hK K
          try simp only [Act.put, List.setIfInBounds_toArray, List.set_cons_zero, List.set_cons_succ]
          refine wpAnyT_take (i := 23) (v := ?tvy23) rfl (by kernel_rfl) (by kernel_rfl) (by kernel_rfl) (by kernel_rfl) inv (fun _ _ _ h => h) (Or.inl ⟨by rfl, ?thy23⟩) (by assumption) (fun inv => ?try23)
          case thy23 =>
            intro w5 hSw
            (try dsimp only at hSw)
            go_simp
            (try with_reducible rfl)
          try simp only [Act.put, List.setIfInBounds_toArray]
          refine wpAnyT_tail (i := 24) (by kernel_rfl) rfl (by kernel_rfl) (fun K hK => ?_)
          (try clear inv)
          go_simp
          refine hK.out _ _ ?_
          clear hK K
          try simp only [Act.put, List.setIfInBounds_toArray, List.set_cons_zero, List.set_cons_succ]
          refine wpAnyT_done (by kernel_rfl) ?_ _
          all_goals (go_wp2_with fail; go_meet)
          all_goals exact ⟨rfl, (by repeat' (first | with_reducible exact Ext.refl _ | with_reducible assumption | with_reducible apply Ext.alloc_r | with_reducible apply Ext.drew_r | with_reducible apply Ext.drewN_r | with_reducible refine Ext.trans ?_ ‹Ext _ _›))⟩
        case rest =>
          obtain ⟨rfl, xz⟩ := hcut
          go_wp2_with fail
          go_ret
          exact ⟨rfl, (by repeat' (first | with_reducible exact Ext.refl _ | with_reducible assumption | with_reducible apply Ext.alloc_r | with_reducible apply Ext.drew_r | with_reducible apply Ext.drewN_r | with_reducible refine Ext.trans ?_ ‹Ext _ _›))⟩
      · have HN : Hid (∀ q, bs s ≠ fmtQ q) := fun q hq => hy ⟨q, hq⟩
        go_wp2_with fail
        refine (rparse_no (by omega) (HM.out _ (by repeat' (first | with_reducible exact Ext.refl _ | with_reducible assumption | with_reducible apply Ext.alloc_r | with_reducible apply Ext.drew_r | with_reducible apply Ext.drewN_r | with_reducible refine Ext.trans ?_ ‹Ext _ _›))) HN.out).mono ?_
        rintro e w6 ⟨rfl, x6⟩
        replace e0_0 := x6.cell e0_0
        replace e0_1 := x6.cell e0_1
        replace e0_2 := x6.cell e0_2
        replace b_0 := x6.cell b_0
        replace b_1 := x6.cell b_1
        replace b_2 := x6.cell b_2
        have te0_0 := fun o => (Ext.alloc w6 o).cell e0_0
        have te0_1 := fun o => (Ext.alloc w6 o).cell e0_1
        have te0_2 := fun o => (Ext.alloc w6 o).cell e0_2
        have tb_0 := fun o => (Ext.alloc w6 o).cell b_0
        have tb_1 := fun o => (Ext.alloc w6 o).cell b_1
        have tb_2 := fun o => (Ext.alloc w6 o).cell b_2
        go_wp2_with fail
        clear te0_0 te0_1 te0_2 tb_0 tb_1 tb_2
        obtain ⟨w7, hw⟩ : ∃ z : World, z = (w6.alloc (.cells #[.bool false, .slice none 0 0, .slice none 0 0] 27)) := ⟨_, rfl⟩
        rw [← hw]
        have x7 : Ext w6 w7 := by rw [hw]; exact Ext.alloc _ _
        have bb := box_at w6 #[.bool false, .slice none 0 0, .slice none 0 0] 27
        rw [← hw] at bb
        replace e0_0 := x7.cell e0_0
        replace e0_1 := x7.cell e0_1
        replace e0_2 := x7.cell e0_2
        replace b_0 := x7.cell b_0
        replace b_1 := x7.cell b_1
        replace b_2 := x7.cell b_2
        have c_0 := bb.1 0 (.bool false) rfl
        have c_1 := bb.1 1 (.slice none 0 0) rfl
        have c_2 := bb.1 2 (.slice none 0 0) rfl
        clear hw bb
        have htl := toList_beq tt
        go_wp2_with fail
        have HK : Hid (∀ w', Ext w7 w' → Ext w7 w' ∧ w'.cell? ⟨w.heap.size, 0, none⟩ = some (.bool s1) ∧ w'.cell? ⟨w.heap.size, 1, none⟩ = some (.slice A1 L1 c1) ∧ w'.cell? ⟨w.heap.size, 2, none⟩ = some (.slice B1 M1 d1) ∧ w'.cell? ⟨w4.heap.size, 0, none⟩ = some (.bool sb) ∧ w'.cell? ⟨w4.heap.size, 1, none⟩ = some (.slice Ab Lb cb) ∧ w'.cell? ⟨w4.heap.size, 2, none⟩ = some (.slice Bb Mb db) ∧ w'.cell? ⟨w6.heap.size, 0, none⟩ = some (.bool false) ∧ w'.cell? ⟨w6.heap.size, 1, none⟩ = some (.slice none 0 0) ∧ w'.cell? ⟨w6.heap.size, 2, none⟩ = some (.slice none 0 0)) := fun w' hk => ⟨hk, hk.cell e0_0, hk.cell e0_1, hk.cell e0_2, hk.cell b_0, hk.cell b_1, hk.cell b_2, hk.cell c_0, hk.cell c_1, hk.cell c_2⟩
        first
        | go_region_held3 (fun w' => Ext w7 w' ∧ w'.cell? ⟨w.heap.size, 0, none⟩ = some (.bool s1) ∧ w'.cell? ⟨w.heap.size, 1, none⟩ = some (.slice A1 L1 c1) ∧ w'.cell? ⟨w.heap.size, 2, none⟩ = some (.slice B1 M1 d1) ∧ w'.cell? ⟨w4.heap.size, 0, none⟩ = some (.bool sb) ∧ w'.cell? ⟨w4.heap.size, 1, none⟩ = some (.slice Ab Lb cb) ∧ w'.cell? ⟨w4.heap.size, 2, none⟩ = some (.slice Bb Mb db) ∧ w'.cell? ⟨w6.heap.size, 0, none⟩ = some (.bool false) ∧ w'.cell? ⟨w6.heap.size, 1, none⟩ = some (.slice none 0 0) ∧ w'.cell? ⟨w6.heap.size, 2, none⟩ = some (.slice none 0 0))
            ((with_reducible refine HK.out _ ?_; (repeat' (first | with_reducible exact Ext.refl _ | with_reducible assumption | with_reducible apply Ext.alloc_r | with_reducible apply Ext.drew_r | with_reducible apply Ext.drewN_r | with_reducible refine Ext.trans ?_ ‹Ext _ _›))))
            (first
              | (go_at_call_of 21 (#[Value.agg #[Value.bool sb, Value.slice Ab Lb cb, Value.slice Bb Mb db], Value.agg #[Value.int IntKind.i64 gob, Value.slice Aob Lob cob, Value.int IntKind.i64 hob, Value.slice Bob Mob dob]]); have hgd := ob; clear hgd; refine (lis5 (b.ext (by repeat' (first | with_reducible exact Ext.refl _ | with_reducible assumption | with_reducible apply Ext.alloc_r | with_reducible apply Ext.drew_r | with_reducible apply Ext.drewN_r | with_reducible refine Ext.trans ?_ ‹Ext _ _›))) (ob.ext (by repeat' (first | with_reducible exact Ext.refl _ | with_reducible assumption | with_reducible apply Ext.alloc_r | with_reducible apply Ext.drew_r | with_reducible apply Ext.drewN_r | with_reducible refine Ext.trans ?_ ‹Ext _ _›))) (rfl) (by omega)).mono ?_; rintro e w11 ⟨rfl, x11⟩)
              | (go_at_call_of 16 (#[Value.agg #[Value.bool s1, Value.slice A1 L1 c1, Value.slice B1 M1 d1]]); have hgd := oa; clear hgd; refine (HO1.out _ (by repeat' (first | with_reducible exact Ext.refl _ | with_reducible assumption | with_reducible apply Ext.alloc_r | with_reducible apply Ext.drew_r | with_reducible apply Ext.drewN_r | with_reducible refine Ext.trans ?_ ‹Ext _ _›))).mono ?_; rintro e w10 ⟨gob, Aob, cob, Lob, hob, Bob, dob, Mob, rfl, ob, x10⟩)
              | (go_at_call_of 55 (#[Value.agg #[Value.int IntKind.i64 goa, Value.slice Aoa Loa coa, Value.int IntKind.i64 hoa, Value.slice Boa Moa doa]]); have hgd := oa; clear hgd; refine (fmt_same (oa.ext (by repeat' (first | with_reducible exact Ext.refl _ | with_reducible assumption | with_reducible apply Ext.alloc_r | with_reducible apply Ext.drew_r | with_reducible apply Ext.drewN_r | with_reducible refine Ext.trans ?_ ‹Ext _ _›))) (by omega) HT.out).mono ?_; rintro e w9 ⟨rfl, x9⟩)
              | (go_at_call_of 16 (#[Value.agg #[Value.bool s1, Value.slice A1 L1 c1, Value.slice B1 M1 d1]]); refine (HO1.out _ (by repeat' (first | with_reducible exact Ext.refl _ | with_reducible assumption | with_reducible apply Ext.alloc_r | with_reducible apply Ext.drew_r | with_reducible apply Ext.drewN_r | with_reducible refine Ext.trans ?_ ‹Ext _ _›))).mono ?_; rintro e w8 ⟨goa, Aoa, coa, Loa, hoa, Boa, doa, Moa, rfl, oa, x8⟩))
        | fail
        clear HK
        have xh : Ext w7 w11 := (by repeat' (first | with_reducible exact Ext.refl _ | with_reducible assumption | with_reducible apply Ext.alloc_r | with_reducible apply Ext.drew_r | with_reducible apply Ext.drewN_r | with_reducible refine Ext.trans ?_ ‹Ext _ _›))
        replace e0_0 := xh.cell e0_0
        replace e0_1 := xh.cell e0_1
        replace e0_2 := xh.cell e0_2
        replace b_0 := xh.cell b_0
        replace b_1 := xh.cell b_1
        replace b_2 := xh.cell b_2
        replace c_0 := xh.cell c_0
        replace c_1 := xh.cell c_1
        replace c_2 := xh.cell c_2
        clear xh
        clear htl
        go_wp2_with fail
        go_cut [4] (fun s4 wx => s4 = Value.bool true ∧ Ext w11 wx)
        case first =>
          have HKS : Hid (∀ w', Ext w11 w' → (w'.cell? ⟨w6.heap.size, 0, none⟩ = some (.bool false) ∧ w'.cell? ⟨w6.heap.size, 1, none⟩ = some (.slice none 0 0) ∧ w'.cell? ⟨w6.heap.size, 2, none⟩ = some (.slice none 0 0))) := fun w' hk => ⟨hk.cell c_0, hk.cell c_1, hk.cell c_2⟩
          refine wp_region_tail 24 (fun w' => w'.cell? ⟨w6.heap.size, 0, none⟩ = some (.bool false) ∧ w'.cell? ⟨w6.heap.size, 1, none⟩ = some (.slice none 0 0) ∧ w'.cell? ⟨w6.heap.size, 2, none⟩ = some (.slice none 0 0)) (by kernel_rfl) ?_ (fun hHeld inv => ?_)
          · (with_reducible refine HKS.out _ ?_; (repeat' (first | with_reducible exact Ext.refl _ | with_reducible assumption | with_reducible apply Ext.alloc_r | with_reducible apply Ext.drew_r | with_reducible apply Ext.drewN_r | with_reducible refine Ext.trans ?_ ‹Ext _ _›)))
          refine wpAnyT_take (i := 0) (v := ?tvn0) rfl (by kernel_rfl) (by kernel_rfl) (by kernel_rfl) (by kernel_rfl) inv (fun _ _ _ h => h) (Or.inl ⟨by rfl, ?thn0⟩) (by assumption) (fun inv => ?trn0)
          case thn0 =>
            intro w5 hSw
            (try dsimp only at hSw)
            go_simp
            (try with_reducible rfl)
          try simp only [Act.put, List.setIfInBounds_toArray]
          refine wpAnyT_take (i := 1) (v := ?tvn1) rfl (by kernel_rfl) (by kernel_rfl) (by kernel_rfl) (by kernel_rfl) inv (fun _ _ _ h => h) (Or.inl ⟨by rfl, ?thn1⟩) (by assumption) (fun inv => ?trn1)
          case thn1 =>
            intro w5 hSw
            (try dsimp only at hSw)
            go_simp
            (try with_reducible rfl)
          try simp only [Act.put]
          refine wpAnyT_take (i := 2) (v := ?tvn2) rfl (by kernel_rfl) (by kernel_rfl) (by kernel_rfl) (by kernel_rfl) inv (fun _ _ _ h => h) (Or.inl ⟨by rfl, ?thn2⟩) (by assumption) (fun inv => ?trn2)
          case thn2 =>
            intro w5 hSw
            (try dsimp only at hSw)
            go_simp
            (try with_reducible rfl)
          try simp only [Act.put]
          refine wpAnyT_take (i := 6) (v := undef) rfl (by kernel_rfl) (by kernel_rfl) (by kernel_rfl) (by kernel_rfl) inv (fun _ _ _ h => h) (Or.inr ⟨by rfl, rfl⟩) (by assumption) (fun inv => ?_)
          try simp only [Act.put]
          refine wpAnyT_head (i := 3) (by kernel_rfl) rfl (by kernel_rfl) inv (fun K hK => ?_)
          clear inv
          go_simp
          refine hK.out _ _ ?_ (fun hHeld inv => ?_)
          · clear hK; (try dsimp only)
            (with_reducible refine HKS.out _ ?_; (repeat' (first | with_reducible exact Ext.refl _ | with_reducible assumption | with_reducible apply Ext.alloc_r | with_reducible apply Ext.drew_r | with_reducible apply Ext.drewN_r | with_reducible refine Ext.trans ?_ ‹Ext _ _›)))
          clear hK K
          try simp only [Act.put, List.setIfInBounds_toArray, List.set_cons_zero, List.set_cons_succ]
          refine wpAnyT_head (i := 4) (by kernel_rfl) rfl (by kernel_rfl) inv (fun K hK => ?_)
          clear inv
          go_simp
          refine hK.out _ _ ?_ (fun hHeld inv => ?_)
          · clear hK; (try dsimp only)
            (with_reducible refine HKS.out _ ?_; (repeat' (first | with_reducible exact Ext.refl _ | with_reducible assumption | with_reducible apply Ext.alloc_r | with_reducible apply Ext.drew_r | with_reducible apply Ext.drewN_r | with_reducible refine Ext.trans ?_ ‹Ext _ _›)))
          clear hK K
          try simp only [Act.put, List.setIfInBounds_toArray, List.set_cons_zero, List.set_cons_succ]
          refine wpAnyT_head (i := 5) (by kernel_rfl) rfl (by kernel_rfl) inv (fun K hK => ?_)
          clear inv
          go_simp
          refine hK.out _ _ ?_ (fun hHeld inv => ?_)
          · clear hK; (try dsimp only)
            (with_reducible refine HKS.out _ ?_; (repeat' (first | with_reducible exact Ext.refl _ | with_reducible assumption | with_reducible apply Ext.alloc_r | with_reducible apply Ext.drew_r | with_reducible apply Ext.drewN_r | with_reducible refine Ext.trans ?_ ‹Ext _ _›)))
          clear hK K
          try simp only [Act.put, List.setIfInBounds_toArray, List.set_cons_zero, List.set_cons_succ]
          refine wpAnyT_head (i := 7) (by kernel_rfl) rfl (by kernel_rfl) inv (fun K hK => ?_)
          clear inv
          go_simp
          refine hK.out _ _ ?_ (fun hHeld inv => ?_)
          · clear hK; (try dsimp only)
            (with_reducible refine HKS.out _ ?_; (repeat' (first | with_reducible exact Ext.refl _ | with_reducible assumption | with_reducible apply Ext.alloc_r | with_reducible apply Ext.drew_r | with_reducible apply Ext.drewN_r | with_reducible refine Ext.trans ?_ ‹Ext _ _›)))
          clear hK K
          try simp only [Act.put, List.setIfInBounds_toArray, List.set_cons_zero, List.set_cons_succ]
          refine wpAnyT_take (i := 8) (v := ?tvn8) rfl (by kernel_rfl) (by kernel_rfl) (by kernel_rfl) (by kernel_rfl) inv (fun _ _ _ h => h) (Or.inl ⟨by rfl, ?thn8⟩) (by assumption) (fun inv => ?trn8)
          case thn8 =>
            intro w5 hSw
            (try dsimp only at hSw)
            go_simp
            (try with_reducible rfl)
          try simp only [Act.put, List.setIfInBounds_toArray]
          refine wpAnyT_take (i := 9) (v := ?tvn9) rfl (by kernel_rfl) (by kernel_rfl) (by kernel_rfl) (by kernel_rfl) inv (fun _ _ _ h => h) (Or.inl ⟨by rfl, ?thn9⟩) (by assumption) (fun inv => ?trn9)
          case thn9 =>
            intro w5 hSw
            (try dsimp only at hSw)
            go_simp
            (try with_reducible rfl)
          try simp only [Act.put]
          refine wpAnyT_take (i := 10) (v := undef) rfl (by kernel_rfl) (by kernel_rfl) (by kernel_rfl) (by kernel_rfl) inv (fun _ _ _ h => h) (Or.inr ⟨by rfl, rfl⟩) (by assumption) (fun inv => ?_)
          try simp only [Act.put]
          refine wpAnyT_head (i := 11) (by kernel_rfl) rfl (by kernel_rfl) inv (fun K hK => ?_)
          clear inv
          go_simp
          refine hK.out _ _ ?_ (fun hHeld inv => ?_)
          · clear hK; (try dsimp only)
            (with_reducible refine HKS.out _ ?_; (repeat' (first | with_reducible exact Ext.refl _ | with_reducible assumption | with_reducible apply Ext.alloc_r | with_reducible apply Ext.drew_r | with_reducible apply Ext.drewN_r | with_reducible refine Ext.trans ?_ ‹Ext _ _›)))
          clear hK K
          try simp only [Act.put, List.setIfInBounds_toArray, List.set_cons_zero, List.set_cons_succ]
          refine wpAnyT_head (i := 12) (by kernel_rfl) rfl (by kernel_rfl) inv (fun K hK => ?_)
          clear inv
          go_simp
          refine hK.out _ _ ?_ (fun hHeld inv => ?_)
          · clear hK; (try dsimp only)
            (with_reducible refine HKS.out _ ?_; (repeat' (first | with_reducible exact Ext.refl _ | with_reducible assumption | with_reducible apply Ext.alloc_r | with_reducible apply Ext.drew_r | with_reducible apply Ext.drewN_r | with_reducible refine Ext.trans ?_ ‹Ext _ _›)))
          clear hK K
          try simp only [Act.put, List.setIfInBounds_toArray, List.set_cons_zero, List.set_cons_succ]
          refine wpAnyT_head (i := 13) (by kernel_rfl) rfl (by kernel_rfl) inv (fun K hK => ?_)
          clear inv
          go_simp
          refine hK.out _ _ ?_ (fun hHeld inv => ?_)
          · clear hK; (try dsimp only)
            (with_reducible refine HKS.out _ ?_; (repeat' (first | with_reducible exact Ext.refl _ | with_reducible assumption | with_reducible apply Ext.alloc_r | with_reducible apply Ext.drew_r | with_reducible apply Ext.drewN_r | with_reducible refine Ext.trans ?_ ‹Ext _ _›)))
          clear hK K
          try simp only [Act.put, List.setIfInBounds_toArray, List.set_cons_zero, List.set_cons_succ]
          refine wpAnyT_take (i := 14) (v := ?tvn14) rfl (by kernel_rfl) (by kernel_rfl) (by kernel_rfl) (by kernel_rfl) inv (fun _ _ _ h => h) (Or.inl ⟨by rfl, ?thn14⟩) (by assumption) (fun inv => ?trn14)
          case thn14 =>
            intro w5 hSw
            (try dsimp only at hSw)
            go_simp
            (try with_reducible rfl)
          try simp only [Act.put, List.setIfInBounds_toArray]
          refine wpAnyT_take (i := 15) (v := ?tvn15) rfl (by kernel_rfl) (by kernel_rfl) (by kernel_rfl) (by kernel_rfl) inv (fun _ _ _ h => h) (Or.inl ⟨by rfl, ?thn15⟩) (by assumption) (fun inv => ?trn15)
          case thn15 =>
            intro w5 hSw
            (try dsimp only at hSw)
            go_simp
            (try with_reducible rfl)
          try simp only [Act.put]
          refine wpAnyT_take (i := 16) (v := ?tvn16) rfl (by kernel_rfl) (by kernel_rfl) (by kernel_rfl) (by kernel_rfl) inv (fun _ _ _ h => h) (Or.inl ⟨by rfl, ?thn16⟩) (by assumption) (fun inv => ?trn16)
          case thn16 =>
            intro w5 hSw
            (try dsimp only at hSw)
            go_simp
            (try with_reducible rfl)
          try simp only [Act.put]
          refine wpAnyT_take (i := 17) (v := ?tvn17) rfl (by kernel_rfl) (by kernel_rfl) (by kernel_rfl) (by kernel_rfl) inv (fun _ _ _ h => h) (Or.inl ⟨by rfl, ?thn17⟩) (by assumption) (fun inv => ?trn17)
          case thn17 =>
            intro w5 hSw
            (try dsimp only at hSw)
            go_simp
            (try with_reducible rfl)
          try simp only [Act.put]
          refine wpAnyT_take (i := 18) (v := ?tvn18) rfl (by kernel_rfl) (by kernel_rfl) (by kernel_rfl) (by kernel_rfl) inv (fun _ _ _ h => h) (Or.inl ⟨by rfl, ?thn18⟩) (by assumption) (fun inv => ?trn18)
          case thn18 =>
            intro w5 hSw
            (try dsimp only at hSw)
            go_simp
            (try with_reducible rfl)
          try simp only [Act.put]
          refine wpAnyT_take (i := 19) (v := ?tvn19) rfl (by kernel_rfl) (by kernel_rfl) (by kernel_rfl) (by kernel_rfl) inv (fun _ _ _ h => h) (Or.inl ⟨by rfl, ?thn19⟩) (by assumption) (fun inv => ?trn19)
          case thn19 =>
            intro w5 hSw
            (try dsimp only at hSw)
            go_simp
            (try with_reducible rfl)
          try simp only [Act.put]
          refine wpAnyT_head (i := 20) (by kernel_rfl) rfl (by kernel_rfl) inv (fun K hK => ?_)
          clear inv
          go_simp
          (go_at_call 23; refine (rsign_is (k := 0) (rv_zero _) rfl).mono ?_; rintro e w94 ⟨rfl, x94⟩)
          refine hK.out _ _ ?_ (fun hHeld inv => ?_)
          · clear hK; (try dsimp only)
            (with_reducible refine HKS.out _ ?_; (repeat' (first | with_reducible exact Ext.refl _ | with_reducible assumption | with_reducible apply Ext.alloc_r | with_reducible apply Ext.drew_r | with_reducible apply Ext.drewN_r | with_reducible refine Ext.trans ?_ ‹Ext _ _›)))
          clear hK K
          try simp only [Act.put, List.setIfInBounds_toArray, List.set_cons_zero, List.set_cons_succ]
          refine wpAnyT_take (i := 21) (v := ?tvn21) rfl (by kernel_rfl) (by kernel_rfl) (by kernel_rfl) (by kernel_rfl) inv (fun _ _ _ h => h) (Or.inl ⟨by rfl, ?thn21⟩) (by assumption) (fun inv => ?trn21)
          case thn21 =>
            intro w5 hSw
            (try dsimp only at hSw)
            go_simp
            (try with_reducible rfl)
          try simp only [Act.put, List.setIfInBounds_toArray]
          refine wpAnyT_take (i := 22) (v := ?tvn22) rfl (by kernel_rfl) (by kernel_rfl) (by kernel_rfl) (by kernel_rfl) inv (fun _ _ _ h => h) (Or.inl ⟨by rfl, ?thn22⟩) (by assumption) (fun inv => ?trn22)
          case thn22 =>
            intro w5 hSw
            (try dsimp only at hSw)
            go_simp
            (try with_reducible rfl)
          try simp only [Act.put]
          refine wpAnyT_take (i := 23) (v := ?tvn23) rfl (by kernel_rfl) (by kernel_rfl) (by kernel_rfl) (by kernel_rfl) inv (fun _ _ _ h => h) (Or.inl ⟨by rfl, ?thn23⟩) (by assumption) (fun inv => ?trn23)
          case thn23 =>
            intro w5 hSw
            (try dsimp only at hSw)
            go_simp
            (try with_reducible rfl)
          try simp only [Act.put]
          refine wpAnyT_tail (i := 24) (by kernel_rfl) rfl (by kernel_rfl) (fun K hK => ?_)
          (try clear inv)
          go_simp
          refine hK.out _ _ ?_
          clear hK K
          try simp only [Act.put, List.setIfInBounds_toArray, List.set_cons_zero, List.set_cons_succ]
          refine wpAnyT_done (by kernel_rfl) ?_ _
          all_goals (go_wp2_with fail; go_meet)
          all_goals exact ⟨rfl, (by repeat' (first | with_reducible exact Ext.refl _ | with_reducible assumption | with_reducible apply Ext.alloc_r | with_reducible apply Ext.drew_r | with_reducible apply Ext.drewN_r | with_reducible refine Ext.trans ?_ ‹Ext _ _›))⟩
        case rest =>
          obtain ⟨rfl, xz⟩ := hcut
          go_wp2_with fail
          go_ret
          exact ⟨rfl, (by repeat' (first | with_reducible exact Ext.refl _ | with_reducible assumption | with_reducible apply Ext.alloc_r | with_reducible apply Ext.drew_r | with_reducible apply Ext.drewN_r | with_reducible refine Ext.trans ?_ ‹Ext _ _›))⟩
    · have hl9 : (80 : Int) < (s.size : Int) := by omega
      go_enter Try.func11, Try.ntmps11
      go_wp2_with fail
      obtain ⟨w0, hw0⟩ : ∃ z : World, z = (w.alloc (.cells #[.bool s1, .slice A1 L1 c1, .slice B1 M1 d1] 27)) := ⟨_, rfl⟩
      rw [← hw0]
      have b0 := box_at w #[.bool s1, .slice A1 L1 c1, .slice B1 M1 d1] 27
      have hsz : w0.heap.size = w.heap.size + 1 := by rw [hw0]; simp
      rw [← hw0] at b0
      have y0 : Ext w w0 := by rw [hw0]; exact Ext.alloc _ _
      have x0 : Ext w w0 := y0
      have e0_0 := b0.1 0 (.bool s1) rfl
      have e0_1 := b0.1 1 (.slice A1 L1 c1) rfl
      have e0_2 := b0.1 2 (.slice B1 M1 d1) rfl
      clear hw0 b0 y0
      go_wp2_with fail
      refine (awake5 _).mono ?_
      rintro e w1 ⟨rfl, x1⟩
      replace e0_0 := x1.cell e0_0
      replace e0_1 := x1.cell e0_1
      replace e0_2 := x1.cell e0_2
      go_wp2_with fail
      refine (few5 (n := 6) (by omega) (by omega) (by omega) (by omega) (by omega) (by omega)).mono ?_
      rintro e w2 ⟨rfl, x2⟩
      replace e0_0 := x2.cell e0_0
      replace e0_1 := x2.cell e0_1
      replace e0_2 := x2.cell e0_2
      rw [HF.out]
      clear hsz
      go_wp2_with fail
      refine (awake5 _).mono ?_
      rintro e w3 ⟨rfl, x3⟩
      replace e0_0 := x3.cell e0_0
      replace e0_1 := x3.cell e0_1
      replace e0_2 := x3.cell e0_2
      go_wp2_with fail
      go_ret
      exact ⟨rfl, (by repeat' (first | with_reducible exact Ext.refl _ | with_reducible assumption | with_reducible apply Ext.alloc_r | with_reducible apply Ext.drew_r | with_reducible apply Ext.drewN_r | with_reducible refine Ext.trans ?_ ‹Ext _ _›))⟩
  · have HF : Hid (((decide (L1 ≤ 6) && (decide (M1 ≤ 6) && decide (L1 ≤ 6))) && (decide (M1 ≤ 6) && (decide (L1 ≤ 6) && decide (M1 ≤ 6)))) = false) := by show _ = _; rw [Bool.eq_false_iff]; simp only [ne_eq, decide_eq_true_eq, Bool.and_eq_true]; omega
    clear hf
    go_enter Try.func11, Try.ntmps11
    go_wp2_with fail
    obtain ⟨w0, hw0⟩ : ∃ z : World, z = (w.alloc (.cells #[.bool s1, .slice A1 L1 c1, .slice B1 M1 d1] 27)) := ⟨_, rfl⟩
    rw [← hw0]
    have b0 := box_at w #[.bool s1, .slice A1 L1 c1, .slice B1 M1 d1] 27
    have hsz : w0.heap.size = w.heap.size + 1 := by rw [hw0]; simp
    rw [← hw0] at b0
    have y0 : Ext w w0 := by rw [hw0]; exact Ext.alloc _ _
    have x0 : Ext w w0 := y0
    have e0_0 := b0.1 0 (.bool s1) rfl
    have e0_1 := b0.1 1 (.slice A1 L1 c1) rfl
    have e0_2 := b0.1 2 (.slice B1 M1 d1) rfl
    clear hw0 b0 y0
    go_wp2_with fail
    refine (awake5 _).mono ?_
    rintro e w1 ⟨rfl, x1⟩
    replace e0_0 := x1.cell e0_0
    replace e0_1 := x1.cell e0_1
    replace e0_2 := x1.cell e0_2
    go_wp2_with fail
    refine (few5 (n := 6) (by omega) (by omega) (by omega) (by omega) (by omega) (by omega)).mono ?_
    rintro e w2 ⟨rfl, x2⟩
    replace e0_0 := x2.cell e0_0
    replace e0_1 := x2.cell e0_1
    replace e0_2 := x2.cell e0_2
    rw [HF.out]
    clear hsz
    go_wp2_with fail
    refine (awake5 _).mono ?_
    rintro e w3 ⟨rfl, x3⟩
    replace e0_0 := x3.cell e0_0
    replace e0_1 := x3.cell e0_1
    replace e0_2 := x3.cell e0_2
    go_wp2_with fail
    go_ret
    exact ⟨rfl, (by repeat' (first | with_reducible exact Ext.refl _ | with_reducible assumption | with_reducible apply Ext.alloc_r | with_reducible apply Ext.drew_r | with_reducible apply Ext.drewN_r | with_reducible refine Ext.trans ?_ ‹Ext _ _›))⟩
end Go.Proofs.Ytfnmbhjifdfibaa
