/- Contracts of package rational: Format, Of. -/
import Derived.Test.YtfnmbhjifdfibaaRatE
import Derived.Test.YtfnmbhjifdfibaaRatD
import Derived.Test.YtfnmbhjifdfibaaDecC
import Derived.Deep.RegionHeldLaw
namespace Go.Proofs.Ytfnmbhjifdfibaa
open Go.RowKit
/-- The text of a fraction. -/
def fmtQ (q : Rat) : List Nat := fmtL 10 q.num ++ (if q.den = 1 then [] else 47 :: fmtL 10 (q.den : Int))
theorem fmt_one (n : Nat) : fmtL 10 (n : Int) = [49] ↔ n = 1 := by
  have h1 : fmtL 10 ((1 : Nat) : Int) = [49] := by
    have hd : digs 10 1 = [1] := by
      have := digs_of_val (B := 10) (ds := [1]) (by omega) (by unfold Valid; simp) (by simp)
      simpa [val] using this
    unfold fmtL
    rw [if_neg (by omega), if_neg (by omega)]
    show [] ++ ((digs 10 1).map sym).reverse = _
    rw [hd]
    rfl
  constructor
  · intro h
    have := fmtL_inj (b := 10) (by omega) (by omega) (h.trans h1.symm)
    omega
  · rintro rfl; exact h1
set_option maxHeartbeats 4000000 in
set_option maxRecDepth 100000 in
theorem rformat_r {w : World} {s1 : Bool} {A1 B1 : Option Addr} {c1 d1 L1 M1 N1 : Nat} {q1 : Rat} (h1 : RV w s1 A1 c1 L1 B1 d1 M1 N1 q1) (hN : N1 ≤ 1000000) :
    Calls Try.prog 53 #[Value.agg #[.bool s1, .slice A1 L1 c1, .slice B1 M1 d1]] w (RetS w (fmtQ q1)) := by
  go_enter Try.func53, Try.ntmps53
  go_wp2_with fail
  obtain ⟨w0, hw0⟩ : ∃ z : World, z = (w.alloc (.cells #[.bool s1, .slice A1 L1 c1, .slice B1 M1 d1] 27)) := ⟨_, rfl⟩
  rw [← hw0]
  have bxa : BK w0 (w.heap.size) 27 #[.bool s1, .slice A1 L1 c1, .slice B1 M1 d1] := by rw [hw0]; have h5 := (BK.new w #[.bool s1, .slice A1 L1 c1, .slice B1 M1 d1] 27); simpa only [World.size_alloc] using h5
  have hszw0 : w0.heap.size = w.heap.size + 1 := by rw [hw0]; simp only [World.size_alloc]
  have xw0 : Ext w w0 := by rw [hw0]; exact (Ext.alloc _ _)
  clear hw0
  refine (rnormal_r (h1.ext (by repeat' (first | with_reducible exact Ext.refl _ | with_reducible assumption | with_reducible apply Ext.alloc_r | with_reducible apply Ext.drew_r | with_reducible apply Ext.drewN_r | with_reducible refine Ext.trans ?_ ‹Ext _ _›))) hN).mono ?_
  rintro e w1 ⟨sn, An, cn, Ln, Bn, dn, Mn, rfl, n, x1⟩
  have szw1 : w0.heap.size ≤ w1.heap.size := x1.size
  replace bxa := bxa.ext x1
  have HN := Lib.hid n
  clear n h1
  have hdn := HN.out.dn
  have hdd := HN.out.dd
  have n := HN.out
  clear HN
  have ka_0 := bxa.c 0 (.bool s1) rfl
  have fa_0 := bxa.f 0
  have ka_1 := bxa.c 1 (.slice A1 L1 c1) rfl
  have fa_1 := bxa.f 1
  have ka_2 := bxa.c 2 (.slice B1 M1 d1) rfl
  have fa_2 := bxa.f 2
  have HN := Lib.hid n
  clear n
  go_wp2_with fail
  clear ka_0 fa_0 ka_1 fa_1 ka_2 fa_2
  have n := HN.out
  clear HN
  obtain ⟨w2, hw⟩ : ∃ z : World, z = (((w1.setCell ⟨w.heap.size, 0, none⟩ (.bool sn)).setCell ⟨w.heap.size, 1, none⟩ (.slice An Ln cn)).setCell ⟨w.heap.size, 2, none⟩ (.slice Bn Mn dn)) := ⟨_, rfl⟩
  rw [← hw]
  have kw2 : Kept w1 w2 := by rw [hw]; exact (Kept.set_ (Kept.set_ (Kept.set_ (Kept.refl _) bxa.isBox plain_rat) (IsBox.set_ bxa.isBox) plain_rat) (IsBox.set_ (IsBox.set_ bxa.isBox)) plain_rat)
  have nba : BK w2 (w.heap.size) 27 #[.bool sn, .slice An Ln cn, .slice Bn Mn dn] := by rw [hw]; exact (BK.set (i := 2) (u := .slice Bn Mn dn) (vs' := #[.bool sn, .slice An Ln cn, .slice Bn Mn dn]) (BK.set (i := 1) (u := .slice An Ln cn) (vs' := #[.bool sn, .slice An Ln cn, .slice B1 M1 d1]) (BK.set (i := 0) (u := .bool sn) (vs' := #[.bool sn, .slice A1 L1 c1, .slice B1 M1 d1]) bxa rfl) rfl) rfl)
  have x2 : Ext w w2 := by rw [hw]; have hxp : Ext w w1 := (by repeat' (first | with_reducible exact Ext.refl _ | with_reducible assumption | with_reducible apply Ext.alloc_r | with_reducible apply Ext.drew_r | with_reducible apply Ext.drewN_r | with_reducible refine Ext.trans ?_ ‹Ext _ _›)); exact (Ext.set_ (Ext.set_ (Ext.set_ hxp (show _ ≤ w.heap.size by omega)) (show _ ≤ w.heap.size by omega)) (show _ ≤ w.heap.size by omega))
  clear bxa
  have bxa := nba
  clear nba
  have szw2 : w2.heap.size = w1.heap.size := by rw [hw]; simp
  replace n := (n.ext (by repeat' (first | with_reducible exact Ext.refl _ | with_reducible assumption | with_reducible apply Ext.alloc_r | with_reducible apply Ext.drew_r | with_reducible apply Ext.drewN_r | with_reducible refine Ext.trans ?_ ‹Ext _ _›))).kept kw2
  clear hw kw2
  have hlen := n.len
  have HA : Hid (ZV w2 sn An cn Ln q1.num) := n.num.zv
  have HB : Hid (ZV w2 false Bn dn Mn (q1.den : Int)) := ⟨by rw [Int.natAbs_natCast, n.len]; exact n.den.nv, (fun h => by cases h), fun _ => Int.natCast_nonneg _⟩
  clear n hlen
  refine (Format_z (HA.out.ext (by repeat' (first | with_reducible exact Ext.refl _ | with_reducible assumption | with_reducible apply Ext.alloc_r | with_reducible apply Ext.drew_r | with_reducible apply Ext.drewN_r | with_reducible refine Ext.trans ?_ ‹Ext _ _›))) (by omega)).mono ?_
  rintro e w3 ⟨tf, rfl, f, x3⟩
  have szw3 : w2.heap.size ≤ w3.heap.size := x3.size
  replace bxa := bxa.ext x3
  have HF := Lib.hid f
  clear f
  have ka_0 := bxa.c 0 (.bool sn) rfl
  have ka_1 := bxa.c 1 (.slice An Ln cn) rfl
  have ka_2 := bxa.c 2 (.slice Bn Mn dn) rfl
  go_wp2_with fail
  clear ka_0 ka_1 ka_2
  refine (Format_z (HB.out.ext (by repeat' (first | with_reducible exact Ext.refl _ | with_reducible assumption | with_reducible apply Ext.alloc_r | with_reducible apply Ext.drew_r | with_reducible apply Ext.drewN_r | with_reducible refine Ext.trans ?_ ‹Ext _ _›))) (by rw [Int.natAbs_natCast]; omega)).mono ?_
  rintro e w4 ⟨tg, rfl, g, x4⟩
  have szw4 : w3.heap.size ≤ w4.heap.size := x4.size
  replace bxa := bxa.ext x4
  have hf : tf.size ≤ 32 * N1 + 2 := by rw [← bs_length, HF.out]; have := fmt_le (b := 10) (by omega) q1.num; omega
  have hg : tg.size ≤ 32 * N1 + 2 := by rw [← bs_length, g]; have := fmt_le (b := 10) (by omega) (q1.den : Int); rw [Int.natAbs_natCast] at this; omega
  have HG := Lib.hid g
  have xz : Ext w w4 := (by repeat' (first | with_reducible exact Ext.refl _ | with_reducible assumption | with_reducible apply Ext.alloc_r | with_reducible apply Ext.drew_r | with_reducible apply Ext.drewN_r | with_reducible refine Ext.trans ?_ ‹Ext _ _›))
  have hb1 : (tg.toList == [49]) = decide (q1.den = 1) := by
    have := bs_eq tg ⟨#[49]⟩
    rw [show (ByteArray.mk #[49]).toList = [49] by rw [Lib.toList_data]] at this
    rw [this, g]
    have h5 := fmt_one q1.den
    by_cases h : q1.den = 1
    · rw [decide_eq_true h]; exact decide_eq_true (h5.2 h)
    · rw [decide_eq_false h]; exact decide_eq_false (fun k => h (h5.1 k))
  clear g HA HB
  by_cases hone : q1.den = 1
  · have HQ : Hid (fmtQ q1 = fmtL 10 q1.num) := by show _ = _; unfold fmtQ; rw [if_pos hone, List.append_nil]
    have hb2 : (!tg.toList == [49]) = false := by rw [hb1, decide_eq_true hone]; rfl
    clear hb1 hone hdd
    have ka_0 := bxa.c 0 (.bool sn) rfl
    have ka_1 := bxa.c 1 (.slice An Ln cn) rfl
    have ka_2 := bxa.c 2 (.slice Bn Mn dn) rfl
    go_wp2_with fail
    clear ka_0 ka_1 ka_2
    go_ret
    exact ⟨_, rfl, by rw [HQ.out]; exact HF.out, xz⟩
  · have HQ : Hid (fmtQ q1 = fmtL 10 q1.num ++ 47 :: fmtL 10 (q1.den : Int)) := by show _ = _; unfold fmtQ; rw [if_neg hone]
    have hb2 : (!tg.toList == [49]) = true := by rw [hb1, decide_eq_false hone]; rfl
    have hs1 : ¬ 9223372036854775807 < 1 + tg.size := by omega
    have hs2 : ¬ 9223372036854775807 < tf.size + (1 + tg.size) := by omega
    clear hb1 hone hdd
    have ka_0 := bxa.c 0 (.bool sn) rfl
    have ka_1 := bxa.c 1 (.slice An Ln cn) rfl
    have ka_2 := bxa.c 2 (.slice Bn Mn dn) rfl
    go_wp2_with fail
    clear ka_0 ka_1 ka_2
    go_ret
    exact ⟨_, rfl, by rw [HQ.out, bs_append, bs_append, HF.out, HG.out]; rfl, xz⟩
set_option maxHeartbeats 4000000 in
set_option maxRecDepth 100000 in
theorem rof_r {w : World} {n : Int} (hn : -4294967295 ≤ n ∧ n ≤ 4294967295) :
    Calls Try.prog 50 #[.int .i64 n] w (RetR w 1 (n : Rat)) := by
  have hd : dl n.natAbs ≤ 1 := dl_le (by unfold B32; omega)
  go_enter Try.func50, Try.ntmps50
  go_wp2_with fail
  obtain ⟨w0, hw0⟩ : ∃ z : World, z = (w.alloc (.cells #[.bool false, .slice none 0 0, .slice none 0 0] 27)) := ⟨_, rfl⟩
  rw [← hw0]
  have bxr : BK w0 (w.heap.size) 27 #[.bool false, .slice none 0 0, .slice none 0 0] := by rw [hw0]; have h5 := (BK.new w #[.bool false, .slice none 0 0, .slice none 0 0] 27); simpa only [World.size_alloc] using h5
  have hszw0 : w0.heap.size = w.heap.size + 1 := by rw [hw0]; simp only [World.size_alloc]
  have xw0 : Ext w w0 := by rw [hw0]; exact (Ext.alloc _ _)
  clear hw0
  refine (of_z (by omega)).mono ?_
  rintro e w1 ⟨si, Ai, ci, Li, rfl, i, x1⟩
  have szw1 : w0.heap.size ≤ w1.heap.size := x1.size
  replace bxr := bxr.ext x1
  have HI := Lib.hid i
  clear i
  have kr_0 := bxr.c 0 (.bool false) rfl
  have kr_1 := bxr.c 1 (.slice none 0 0) rfl
  have kr_2 := bxr.c 2 (.slice none 0 0) rfl
  go_wp2_with fail
  clear kr_0 kr_1 kr_2
  refine (rfrom_r (N := 1) (HI.out.zv.ext (by repeat' (first | with_reducible exact Ext.refl _ | with_reducible assumption | with_reducible apply Ext.alloc_r | with_reducible apply Ext.drew_r | with_reducible apply Ext.drewN_r | with_reducible refine Ext.trans ?_ ‹Ext _ _›))) hd (by omega) (by omega)).mono ?_
  rintro e w2 ⟨sz, Az, cz, Lz, Bz, dz, Mz, rfl, z, x2⟩
  have szw2 : w1.heap.size ≤ w2.heap.size := x2.size
  replace bxr := bxr.ext x2
  clear HI
  have kr_0 := bxr.c 0 (.bool false) rfl
  have fr_0 := bxr.f 0
  have kr_1 := bxr.c 1 (.slice none 0 0) rfl
  have fr_1 := bxr.f 1
  have kr_2 := bxr.c 2 (.slice none 0 0) rfl
  have fr_2 := bxr.f 2
  go_wp2_with fail
  clear kr_0 fr_0 kr_1 fr_1 kr_2 fr_2
  have HR2 := z.mono (show w.heap.size ≤ _ by omega)
  clear z
  obtain ⟨w3, hw⟩ : ∃ z : World, z = (((w2.setCell ⟨w.heap.size, 0, none⟩ (.bool sz)).setCell ⟨w.heap.size, 1, none⟩ (.slice Az Lz cz)).setCell ⟨w.heap.size, 2, none⟩ (.slice Bz Mz dz)) := ⟨_, rfl⟩
  rw [← hw]
  have kw3 : Kept w2 w3 := by rw [hw]; exact (Kept.set_ (Kept.set_ (Kept.set_ (Kept.refl _) bxr.isBox plain_rat) (IsBox.set_ bxr.isBox) plain_rat) (IsBox.set_ (IsBox.set_ bxr.isBox)) plain_rat)
  have nbr : BK w3 (w.heap.size) 27 #[.bool sz, .slice Az Lz cz, .slice Bz Mz dz] := by rw [hw]; exact (BK.set (i := 2) (u := .slice Bz Mz dz) (vs' := #[.bool sz, .slice Az Lz cz, .slice Bz Mz dz]) (BK.set (i := 1) (u := .slice Az Lz cz) (vs' := #[.bool sz, .slice Az Lz cz, .slice none 0 0]) (BK.set (i := 0) (u := .bool sz) (vs' := #[.bool sz, .slice none 0 0, .slice none 0 0]) bxr rfl) rfl) rfl)
  have x3 : Ext w w3 := by rw [hw]; have hxp : Ext w w2 := (by repeat' (first | with_reducible exact Ext.refl _ | with_reducible assumption | with_reducible apply Ext.alloc_r | with_reducible apply Ext.drew_r | with_reducible apply Ext.drewN_r | with_reducible refine Ext.trans ?_ ‹Ext _ _›)); exact (Ext.set_ (Ext.set_ (Ext.set_ hxp (show _ ≤ w.heap.size by omega)) (show _ ≤ w.heap.size by omega)) (show _ ≤ w.heap.size by omega))
  clear bxr
  have bxr := nbr
  clear nbr
  have szw3 : w3.heap.size = w2.heap.size := by rw [hw]; simp
  replace HR2 := (HR2.ext (by repeat' (first | with_reducible exact Ext.refl _ | with_reducible assumption | with_reducible apply Ext.alloc_r | with_reducible apply Ext.drew_r | with_reducible apply Ext.drewN_r | with_reducible refine Ext.trans ?_ ‹Ext _ _›))).kept kw3
  clear hw kw3
  have HRO := Lib.hid HR2
  clear HR2
  have kr_0 := bxr.c 0 (.bool sz) rfl
  have kr_1 := bxr.c 1 (.slice Az Lz cz) rfl
  have kr_2 := bxr.c 2 (.slice Bz Mz dz) rfl
  go_wp2_with fail
  clear kr_0 kr_1 kr_2
  have kr_0 := bxr.c 0 (.bool sz) rfl
  have kr_1 := bxr.c 1 (.slice Az Lz cz) rfl
  have kr_2 := bxr.c 2 (.slice Bz Mz dz) rfl
  refine bodyPost_ret (v := .agg #[.bool sz, .slice Az Lz cz, .slice Bz Mz dz]) (by simp [results, Try.results50, go_sem, kr_0, kr_1, kr_2]) rfl ?_
  exact ⟨_, _, _, _, _, _, _, rfl, HRO.out, x3⟩
end Go.Proofs.Ytfnmbhjifdfibaa
