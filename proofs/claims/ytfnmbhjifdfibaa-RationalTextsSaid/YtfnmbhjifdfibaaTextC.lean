/- The reference: the text of a fraction. -/
import Derived.Test.YtfnmbhjifdfibaaRef5
import Derived.Test.YtfnmbhjifdfibaaRefI
import Derived.Test.YtfnmbhjifdfibaaRatQ
import Derived.Deep.RegionHeldLaw
import Derived.Deep.LoopGhost
import Derived.Deep.QuietTactic
import Derived.BigQuiet
namespace Go.Proofs.Ytfnmbhjifdfibaa
open Go.RowKit
theorem qr_bl {w : World} {g1 h1 : Int} {A1 B1 : Option Addr} {c1 d1 L1 M1 K1 : Nat} {q1 : Rat} (z : QR w g1 A1 c1 L1 h1 B1 d1 M1 K1 q1) : bl q1.num.natAbs ≤ K1 ∧ bl q1.den ≤ K1 := by
  obtain ⟨x, y, _, _, h0, rfl, h3, h4⟩ := z.ex
  exact ⟨Nat.le_trans (bl_mono (rat_num_le h0)) h3, Nat.le_trans (bl_mono (rat_den_le h0)) h4⟩
theorem rzcmp_e {w : World} {sg1 sg2 x y k : Int} {A1 A2 : Option Addr} {c1 c2 L1 L2 : Nat} (h1 : RZ w sg1 A1 c1 L1 x) (h2 : RZ w sg2 A2 c2 L2 y) (hs1 : bl x.natAbs ≤ 8796093022208) (hs2 : bl y.natAbs ≤ 8796093022208) (e : cmpZ x y = k) :
    Calls Try.prog 31 #[.agg #[.int .i64 sg1, .slice A1 L1 c1], .agg #[.int .i64 sg2, .slice A2 L2 c2]] w fun e w' => e = .returned (.int .i64 k) ∧ Ext w w' := by
  rw [← e]
  exact rzcmp_z h1 h2 hs1 hs2
theorem dl_bl (n : Nat) : dl n ≤ bl n := dl_le (Nat.lt_of_lt_of_le (lt_pow_len (B := 2) (by omega) n) (Nat.pow_le_pow_left (by unfold B32; omega) _))
theorem bl_1 : bl 1 ≤ 1 := bl_of_lt (by omega)
set_option maxHeartbeats 4000000 in
set_option maxRecDepth 100000 in
theorem qfmt_one {w : World} {g1 h1 : Int} {A1 B1 : Option Addr} {c1 d1 L1 M1 K1 : Nat} {q1 : Rat} (z1 : QR w g1 A1 c1 L1 h1 B1 d1 M1 K1 q1) (hs1 : K1 ≤ 1000000) (hd : q1.den = 1) :
    Calls Try.prog 55 #[Value.agg #[Value.int .i64 g1, Value.slice A1 L1 c1, Value.int .i64 h1, Value.slice B1 M1 d1]] w (RetS w (fmtQ q1)) := by
  obtain ⟨n1, n2⟩ := qr_bl z1
  obtain ⟨K, hK⟩ : ∃ K : Int, K = cmpZ (q1.den : Int) 1 := ⟨_, rfl⟩
  have hkb : (K == 0) = true := by rw [hK, cmpZ_eq0]; rw [hd]; rfl
  have HKK := Lib.hid hK.symm
  have e1 : bl (q1.den : Int).natAbs ≤ K1 := by rw [Int.natAbs_natCast]; exact n2
  have e2 : bl (1 : Int).natAbs ≤ 1 := bl_1
  have hlq : fmtQ q1 = fmtL 10 q1.num ++ [] := by unfold fmtQ; rw [if_pos hd]
  have HLQ := Lib.hid hlq
  clear hK hd hlq
  go_enter Try.func55, Try.ntmps55
  go_wp2_with fail
  obtain ⟨w0, hw0⟩ : ∃ z : World, z = (w.alloc (.cells #[.int .i64 g1, .slice A1 L1 c1, .int .i64 h1, .slice B1 M1 d1] 38)) := ⟨_, rfl⟩
  rw [← hw0]
  have bxa : BK w0 (w.heap.size) 38 #[.int .i64 g1, .slice A1 L1 c1, .int .i64 h1, .slice B1 M1 d1] := by rw [hw0]; have h5 := (BK.new w #[.int .i64 g1, .slice A1 L1 c1, .int .i64 h1, .slice B1 M1 d1] 38); simpa only [World.size_alloc] using h5
  have hszw0 : w0.heap.size = w.heap.size + 1 := by rw [hw0]; simp only [World.size_alloc]
  have xw0 : Ext w w0 := by rw [hw0]; exact (Ext.alloc _ _)
  clear hw0
  refine (reduced_r (z1.ext (by repeat' (first | with_reducible exact Ext.refl _ | with_reducible assumption | with_reducible apply Ext.alloc_r | with_reducible apply Ext.drew_r | with_reducible apply Ext.drewN_r | with_reducible refine Ext.trans ?_ ‹Ext _ _›))) (by omega)).mono ?_
  rintro e w1 ⟨gr, Ar, cr, Lr, hr, Br, dr, Mr, rfl, r1, r2, x1⟩
  have szw1 : w0.heap.size ≤ w1.heap.size := x1.size
  replace bxa := bxa.ext x1
  have lr1 : Lr ≤ K1 := by rw [r1.len]; exact n1
  have lr2 : Mr ≤ K1 := by rw [r2.len, Int.natAbs_natCast]; exact n2
  have HR := Lib.hid (And.intro r1 r2)
  clear r1 r2 z1
  have ka_0 := bxa.c 0 (.int .i64 g1) rfl
  have ka_1 := bxa.c 1 (.slice A1 L1 c1) rfl
  have ka_2 := bxa.c 2 (.int .i64 h1) rfl
  have ka_3 := bxa.c 3 (.slice B1 M1 d1) rfl
  have t1a_0 := fun (o0 : Obj) => ((Ext.alloc w1 o0).cell (bxa.c 0 (.int .i64 g1) rfl))
  have t1a_1 := fun (o0 : Obj) => ((Ext.alloc w1 o0).cell (bxa.c 1 (.slice A1 L1 c1) rfl))
  have t1a_2 := fun (o0 : Obj) => ((Ext.alloc w1 o0).cell (bxa.c 2 (.int .i64 h1) rfl))
  have t1a_3 := fun (o0 : Obj) => ((Ext.alloc w1 o0).cell (bxa.c 3 (.slice B1 M1 d1) rfl))
  go_wp2_with fail
  clear ka_0 ka_1 ka_2 ka_3 t1a_0 t1a_1 t1a_2 t1a_3
  obtain ⟨w2, hw⟩ : ∃ z : World, z = (w1.alloc (.cells #[.int .i64 gr, .slice Ar Lr cr, .int .i64 hr, .slice Br Mr dr] 38)) := ⟨_, rfl⟩
  rw [← hw]
  have x2 : Ext w1 w2 := by rw [hw]; exact (Ext.alloc _ _)
  replace bxa := bxa.ext x2
  have bxb : BK w2 (w1.heap.size) 38 #[.int .i64 gr, .slice Ar Lr cr, .int .i64 hr, .slice Br Mr dr] := by rw [hw]; have h5 := (BK.new w1 #[.int .i64 gr, .slice Ar Lr cr, .int .i64 hr, .slice Br Mr dr] 38); simpa only [World.size_alloc] using h5
  have szw2 : w2.heap.size = w1.heap.size + 1 := by rw [hw]; simp only [World.size_alloc]
  clear hw
  refine (rFormat_rz (b := 10) (HR.out.1.ext (by repeat' (first | with_reducible exact Ext.refl _ | with_reducible assumption | with_reducible apply Ext.alloc_r | with_reducible apply Ext.drew_r | with_reducible apply Ext.drewN_r | with_reducible refine Ext.trans ?_ ‹Ext _ _›))) (by omega) (by omega) (by omega)).mono ?_
  rintro e w3 ⟨tt, rfl, t, x3⟩
  have szw3 : w2.heap.size ≤ w3.heap.size := x3.size
  replace bxa := bxa.ext x3
  replace bxb := bxb.ext x3
  have HT := Lib.hid t
  clear t
  have ka_0 := bxa.c 0 (.int .i64 g1) rfl
  have ka_1 := bxa.c 1 (.slice A1 L1 c1) rfl
  have ka_2 := bxa.c 2 (.int .i64 h1) rfl
  have ka_3 := bxa.c 3 (.slice B1 M1 d1) rfl
  have kb_0 := bxb.c 0 (.int .i64 gr) rfl
  have kb_1 := bxb.c 1 (.slice Ar Lr cr) rfl
  have kb_2 := bxb.c 2 (.int .i64 hr) rfl
  have kb_3 := bxb.c 3 (.slice Br Mr dr) rfl
  go_wp2_with fail
  have HK : Hid (∀ w', Ext w3 w' → (w'.cell? ⟨w1.heap.size, 0, none⟩ = some (.int .i64 gr) ∧ w'.cell? ⟨w1.heap.size, 1, none⟩ = some (.slice Ar Lr cr) ∧ w'.cell? ⟨w1.heap.size, 2, none⟩ = some (.int .i64 hr) ∧ w'.cell? ⟨w1.heap.size, 3, none⟩ = some (.slice Br Mr dr))) := fun w' hk => ⟨hk.cell kb_0, hk.cell kb_1, hk.cell kb_2, hk.cell kb_3⟩
  go_region_held3 (fun w' => w'.cell? ⟨w1.heap.size, 0, none⟩ = some (.int .i64 gr) ∧ w'.cell? ⟨w1.heap.size, 1, none⟩ = some (.slice Ar Lr cr) ∧ w'.cell? ⟨w1.heap.size, 2, none⟩ = some (.int .i64 hr) ∧ w'.cell? ⟨w1.heap.size, 3, none⟩ = some (.slice Br Mr dr))
    ((with_reducible refine HK.out _ ?_; (repeat' (first | with_reducible exact Ext.refl _ | with_reducible assumption | with_reducible apply Ext.alloc_r | with_reducible apply Ext.drew_r | with_reducible apply Ext.drewN_r | with_reducible refine Ext.trans ?_ ‹Ext _ _›))))
    (first
      | (go_at_call 31; have hgd := o; clear hgd; refine (rzcmp_e (HR.out.2.ext (by repeat' (first | with_reducible exact Ext.refl _ | with_reducible assumption | with_reducible apply Ext.alloc_r | with_reducible apply Ext.drew_r | with_reducible apply Ext.drewN_r | with_reducible refine Ext.trans ?_ ‹Ext _ _›))) (o.ext (by repeat' (first | with_reducible exact Ext.refl _ | with_reducible assumption | with_reducible apply Ext.alloc_r | with_reducible apply Ext.drew_r | with_reducible apply Ext.drewN_r | with_reducible refine Ext.trans ?_ ‹Ext _ _›))) (by omega) (by omega) HKK.out).mono ?_; rintro e w5 ⟨rfl, x5⟩)
      | (go_at_call 20; refine (small_rz (by omega)).mono ?_; rintro e w4 ⟨go, Ao, co, Lo, rfl, o, x4⟩))
  clear ka_0 ka_1 ka_2 ka_3 kb_0 kb_1 kb_2 kb_3
  clear HK
  have szw4 : w3.heap.size ≤ w4.heap.size := (show Ext w3 w4 from (by repeat' (first | with_reducible exact Ext.refl _ | with_reducible assumption | with_reducible apply Ext.alloc_r | with_reducible apply Ext.drew_r | with_reducible apply Ext.drewN_r | with_reducible refine Ext.trans ?_ ‹Ext _ _›))).size
  have xhw5 : Ext w3 w5 := (by repeat' (first | with_reducible exact Ext.refl _ | with_reducible assumption | with_reducible apply Ext.alloc_r | with_reducible apply Ext.drew_r | with_reducible apply Ext.drewN_r | with_reducible refine Ext.trans ?_ ‹Ext _ _›))
  have szw5 : w3.heap.size ≤ w5.heap.size := xhw5.size
  replace bxa := bxa.ext xhw5
  replace bxb := bxb.ext xhw5
  clear o HKK
  have xz : Ext w w5 := (by repeat' (first | with_reducible exact Ext.refl _ | with_reducible assumption | with_reducible apply Ext.alloc_r | with_reducible apply Ext.drew_r | with_reducible apply Ext.drewN_r | with_reducible refine Ext.trans ?_ ‹Ext _ _›))
  have ka_0 := bxa.c 0 (.int .i64 g1) rfl
  have ka_1 := bxa.c 1 (.slice A1 L1 c1) rfl
  have ka_2 := bxa.c 2 (.int .i64 h1) rfl
  have ka_3 := bxa.c 3 (.slice B1 M1 d1) rfl
  have kb_0 := bxb.c 0 (.int .i64 gr) rfl
  have kb_1 := bxb.c 1 (.slice Ar Lr cr) rfl
  have kb_2 := bxb.c 2 (.int .i64 hr) rfl
  have kb_3 := bxb.c 3 (.slice Br Mr dr) rfl
  go_wp2_with fail
  clear ka_0 ka_1 ka_2 ka_3 kb_0 kb_1 kb_2 kb_3
  go_ret
  refine ⟨_, rfl, ?_, xz⟩
  rw [HLQ.out, List.append_nil]; exact HT.out
set_option maxHeartbeats 4000000 in
set_option maxRecDepth 100000 in
theorem qfmt_frac {w : World} {g1 h1 : Int} {A1 B1 : Option Addr} {c1 d1 L1 M1 K1 : Nat} {q1 : Rat} (z1 : QR w g1 A1 c1 L1 h1 B1 d1 M1 K1 q1) (hs1 : K1 ≤ 1000000) (hd : q1.den ≠ 1) :
    Calls Try.prog 55 #[Value.agg #[Value.int .i64 g1, Value.slice A1 L1 c1, Value.int .i64 h1, Value.slice B1 M1 d1]] w (RetS w (fmtQ q1)) := by
  obtain ⟨n1, n2⟩ := qr_bl z1
  obtain ⟨K, hK⟩ : ∃ K : Int, K = cmpZ (q1.den : Int) 1 := ⟨_, rfl⟩
  have hkb : (K == 0) = false := by rw [hK, cmpZ_eq0]; exact beq_eq_false_iff_ne.2 (by omega)
  have HKK := Lib.hid hK.symm
  have e1 : bl (q1.den : Int).natAbs ≤ K1 := by rw [Int.natAbs_natCast]; exact n2
  have e2 : bl (1 : Int).natAbs ≤ 1 := bl_1
  have hlq : fmtQ q1 = fmtL 10 q1.num ++ 47 :: fmtL 10 (q1.den : Int) := by unfold fmtQ; rw [if_neg hd]
  have HLQ := Lib.hid hlq
  clear hK hd hlq
  go_enter Try.func55, Try.ntmps55
  go_wp2_with fail
  obtain ⟨w0, hw0⟩ : ∃ z : World, z = (w.alloc (.cells #[.int .i64 g1, .slice A1 L1 c1, .int .i64 h1, .slice B1 M1 d1] 38)) := ⟨_, rfl⟩
  rw [← hw0]
  have bxa : BK w0 (w.heap.size) 38 #[.int .i64 g1, .slice A1 L1 c1, .int .i64 h1, .slice B1 M1 d1] := by rw [hw0]; have h5 := (BK.new w #[.int .i64 g1, .slice A1 L1 c1, .int .i64 h1, .slice B1 M1 d1] 38); simpa only [World.size_alloc] using h5
  have hszw0 : w0.heap.size = w.heap.size + 1 := by rw [hw0]; simp only [World.size_alloc]
  have xw0 : Ext w w0 := by rw [hw0]; exact (Ext.alloc _ _)
  clear hw0
  refine (reduced_r (z1.ext (by repeat' (first | with_reducible exact Ext.refl _ | with_reducible assumption | with_reducible apply Ext.alloc_r | with_reducible apply Ext.drew_r | with_reducible apply Ext.drewN_r | with_reducible refine Ext.trans ?_ ‹Ext _ _›))) (by omega)).mono ?_
  rintro e w1 ⟨gr, Ar, cr, Lr, hr, Br, dr, Mr, rfl, r1, r2, x1⟩
  have szw1 : w0.heap.size ≤ w1.heap.size := x1.size
  replace bxa := bxa.ext x1
  have lr1 : Lr ≤ K1 := by rw [r1.len]; exact n1
  have lr2 : Mr ≤ K1 := by rw [r2.len, Int.natAbs_natCast]; exact n2
  have HR := Lib.hid (And.intro r1 r2)
  clear r1 r2 z1
  have ka_0 := bxa.c 0 (.int .i64 g1) rfl
  have ka_1 := bxa.c 1 (.slice A1 L1 c1) rfl
  have ka_2 := bxa.c 2 (.int .i64 h1) rfl
  have ka_3 := bxa.c 3 (.slice B1 M1 d1) rfl
  have t1a_0 := fun (o0 : Obj) => ((Ext.alloc w1 o0).cell (bxa.c 0 (.int .i64 g1) rfl))
  have t1a_1 := fun (o0 : Obj) => ((Ext.alloc w1 o0).cell (bxa.c 1 (.slice A1 L1 c1) rfl))
  have t1a_2 := fun (o0 : Obj) => ((Ext.alloc w1 o0).cell (bxa.c 2 (.int .i64 h1) rfl))
  have t1a_3 := fun (o0 : Obj) => ((Ext.alloc w1 o0).cell (bxa.c 3 (.slice B1 M1 d1) rfl))
  go_wp2_with fail
  clear ka_0 ka_1 ka_2 ka_3 t1a_0 t1a_1 t1a_2 t1a_3
  obtain ⟨w2, hw⟩ : ∃ z : World, z = (w1.alloc (.cells #[.int .i64 gr, .slice Ar Lr cr, .int .i64 hr, .slice Br Mr dr] 38)) := ⟨_, rfl⟩
  rw [← hw]
  have x2 : Ext w1 w2 := by rw [hw]; exact (Ext.alloc _ _)
  replace bxa := bxa.ext x2
  have bxb : BK w2 (w1.heap.size) 38 #[.int .i64 gr, .slice Ar Lr cr, .int .i64 hr, .slice Br Mr dr] := by rw [hw]; have h5 := (BK.new w1 #[.int .i64 gr, .slice Ar Lr cr, .int .i64 hr, .slice Br Mr dr] 38); simpa only [World.size_alloc] using h5
  have szw2 : w2.heap.size = w1.heap.size + 1 := by rw [hw]; simp only [World.size_alloc]
  clear hw
  refine (rFormat_rz (b := 10) (HR.out.1.ext (by repeat' (first | with_reducible exact Ext.refl _ | with_reducible assumption | with_reducible apply Ext.alloc_r | with_reducible apply Ext.drew_r | with_reducible apply Ext.drewN_r | with_reducible refine Ext.trans ?_ ‹Ext _ _›))) (by omega) (by omega) (by omega)).mono ?_
  rintro e w3 ⟨tt, rfl, t, x3⟩
  have szw3 : w2.heap.size ≤ w3.heap.size := x3.size
  replace bxa := bxa.ext x3
  replace bxb := bxb.ext x3
  have HT := Lib.hid t
  clear t
  have ka_0 := bxa.c 0 (.int .i64 g1) rfl
  have ka_1 := bxa.c 1 (.slice A1 L1 c1) rfl
  have ka_2 := bxa.c 2 (.int .i64 h1) rfl
  have ka_3 := bxa.c 3 (.slice B1 M1 d1) rfl
  have kb_0 := bxb.c 0 (.int .i64 gr) rfl
  have kb_1 := bxb.c 1 (.slice Ar Lr cr) rfl
  have kb_2 := bxb.c 2 (.int .i64 hr) rfl
  have kb_3 := bxb.c 3 (.slice Br Mr dr) rfl
  go_wp2_with fail
  have HK : Hid (∀ w', Ext w3 w' → (w'.cell? ⟨w1.heap.size, 0, none⟩ = some (.int .i64 gr) ∧ w'.cell? ⟨w1.heap.size, 1, none⟩ = some (.slice Ar Lr cr) ∧ w'.cell? ⟨w1.heap.size, 2, none⟩ = some (.int .i64 hr) ∧ w'.cell? ⟨w1.heap.size, 3, none⟩ = some (.slice Br Mr dr))) := fun w' hk => ⟨hk.cell kb_0, hk.cell kb_1, hk.cell kb_2, hk.cell kb_3⟩
  go_region_held3 (fun w' => w'.cell? ⟨w1.heap.size, 0, none⟩ = some (.int .i64 gr) ∧ w'.cell? ⟨w1.heap.size, 1, none⟩ = some (.slice Ar Lr cr) ∧ w'.cell? ⟨w1.heap.size, 2, none⟩ = some (.int .i64 hr) ∧ w'.cell? ⟨w1.heap.size, 3, none⟩ = some (.slice Br Mr dr))
    ((with_reducible refine HK.out _ ?_; (repeat' (first | with_reducible exact Ext.refl _ | with_reducible assumption | with_reducible apply Ext.alloc_r | with_reducible apply Ext.drew_r | with_reducible apply Ext.drewN_r | with_reducible refine Ext.trans ?_ ‹Ext _ _›))))
    (first
      | (go_at_call 31; have hgd := o; clear hgd; refine (rzcmp_e (HR.out.2.ext (by repeat' (first | with_reducible exact Ext.refl _ | with_reducible assumption | with_reducible apply Ext.alloc_r | with_reducible apply Ext.drew_r | with_reducible apply Ext.drewN_r | with_reducible refine Ext.trans ?_ ‹Ext _ _›))) (o.ext (by repeat' (first | with_reducible exact Ext.refl _ | with_reducible assumption | with_reducible apply Ext.alloc_r | with_reducible apply Ext.drew_r | with_reducible apply Ext.drewN_r | with_reducible refine Ext.trans ?_ ‹Ext _ _›))) (by omega) (by omega) HKK.out).mono ?_; rintro e w5 ⟨rfl, x5⟩)
      | (go_at_call 20; refine (small_rz (by omega)).mono ?_; rintro e w4 ⟨go, Ao, co, Lo, rfl, o, x4⟩))
  clear ka_0 ka_1 ka_2 ka_3 kb_0 kb_1 kb_2 kb_3
  clear HK
  have szw4 : w3.heap.size ≤ w4.heap.size := (show Ext w3 w4 from (by repeat' (first | with_reducible exact Ext.refl _ | with_reducible assumption | with_reducible apply Ext.alloc_r | with_reducible apply Ext.drew_r | with_reducible apply Ext.drewN_r | with_reducible refine Ext.trans ?_ ‹Ext _ _›))).size
  have xhw5 : Ext w3 w5 := (by repeat' (first | with_reducible exact Ext.refl _ | with_reducible assumption | with_reducible apply Ext.alloc_r | with_reducible apply Ext.drew_r | with_reducible apply Ext.drewN_r | with_reducible refine Ext.trans ?_ ‹Ext _ _›))
  have szw5 : w3.heap.size ≤ w5.heap.size := xhw5.size
  replace bxa := bxa.ext xhw5
  replace bxb := bxb.ext xhw5
  clear o HKK
  have hf : tt.size ≤ 64 * K1 + 10 := by rw [← bs_length, HT.out]; have := fmt_le (b := 10) (by omega) q1.num; have h6 := dl_bl q1.num.natAbs; omega
  have hs1 : ¬ 9223372036854775807 < tt.size + 1 := by omega
  have ka_0 := bxa.c 0 (.int .i64 g1) rfl
  have ka_1 := bxa.c 1 (.slice A1 L1 c1) rfl
  have ka_2 := bxa.c 2 (.int .i64 h1) rfl
  have ka_3 := bxa.c 3 (.slice B1 M1 d1) rfl
  have kb_0 := bxb.c 0 (.int .i64 gr) rfl
  have kb_1 := bxb.c 1 (.slice Ar Lr cr) rfl
  have kb_2 := bxb.c 2 (.int .i64 hr) rfl
  have kb_3 := bxb.c 3 (.slice Br Mr dr) rfl
  go_wp2_with fail
  clear ka_0 ka_1 ka_2 ka_3 kb_0 kb_1 kb_2 kb_3
  refine (rFormat_rz (b := 10) (HR.out.2.ext (by repeat' (first | with_reducible exact Ext.refl _ | with_reducible assumption | with_reducible apply Ext.alloc_r | with_reducible apply Ext.drew_r | with_reducible apply Ext.drewN_r | with_reducible refine Ext.trans ?_ ‹Ext _ _›))) (by omega) (by omega) (by omega)).mono ?_
  rintro e w6 ⟨tu, rfl, u, x6⟩
  have szw6 : w5.heap.size ≤ w6.heap.size := x6.size
  replace bxa := bxa.ext x6
  replace bxb := bxb.ext x6
  have hg : tu.size ≤ 64 * K1 + 10 := by rw [← bs_length, u]; have := fmt_le (b := 10) (by omega) (q1.den : Int); rw [Int.natAbs_natCast] at this; have h6 := dl_bl q1.den; omega
  have HU := Lib.hid u
  have hs2 : ¬ 9223372036854775807 < tt.size + 1 + tu.size := by omega
  clear u
  have xz : Ext w w6 := (by repeat' (first | with_reducible exact Ext.refl _ | with_reducible assumption | with_reducible apply Ext.alloc_r | with_reducible apply Ext.drew_r | with_reducible apply Ext.drewN_r | with_reducible refine Ext.trans ?_ ‹Ext _ _›))
  have ka_0 := bxa.c 0 (.int .i64 g1) rfl
  have ka_1 := bxa.c 1 (.slice A1 L1 c1) rfl
  have ka_2 := bxa.c 2 (.int .i64 h1) rfl
  have ka_3 := bxa.c 3 (.slice B1 M1 d1) rfl
  have kb_0 := bxb.c 0 (.int .i64 gr) rfl
  have kb_1 := bxb.c 1 (.slice Ar Lr cr) rfl
  have kb_2 := bxb.c 2 (.int .i64 hr) rfl
  have kb_3 := bxb.c 3 (.slice Br Mr dr) rfl
  go_wp2_with fail
  clear ka_0 ka_1 ka_2 ka_3 kb_0 kb_1 kb_2 kb_3
  go_ret
  refine ⟨_, rfl, ?_, xz⟩
  rw [HLQ.out]
  simp only [bs_append, HT.out, HU.out]
  simp [bs]
theorem qformat_r {w : World} {g1 h1 : Int} {A1 B1 : Option Addr} {c1 d1 L1 M1 K1 : Nat} {q1 : Rat} (z1 : QR w g1 A1 c1 L1 h1 B1 d1 M1 K1 q1) (hs1 : K1 ≤ 1000000) :
    Calls Try.prog 55 #[Value.agg #[Value.int .i64 g1, Value.slice A1 L1 c1, Value.int .i64 h1, Value.slice B1 M1 d1]] w (RetS w (fmtQ q1)) := by
  by_cases hd : q1.den = 1
  · exact qfmt_one z1 hs1 hd
  · exact qfmt_frac z1 hs1 hd
end Go.Proofs.Ytfnmbhjifdfibaa
