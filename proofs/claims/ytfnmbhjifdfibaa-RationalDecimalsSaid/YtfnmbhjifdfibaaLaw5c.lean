/- More of the laws' helpers of chapter 05: is with another fraction; one half and zero. -/
import Derived.Test.YtfnmbhjifdfibaaLaw5b
import Derived.Test.YtfnmbhjifdfibaaRatR
import Derived.Deep.RegionHeldLaw
import Derived.Deep.LoopGhost
import Derived.Deep.QuietTactic
import Derived.BigQuiet
namespace Go.Proofs.Ytfnmbhjifdfibaa
open Go.RowKit
theorem is_rz_no {w : World} {B : Nat} {s : Bool} {sg x : Int} {A A2 : Option Addr} {c c2 L L2 : Nat} (h1 : ZO w B s A c L x) (h2 : RZ w sg A2 c2 L2 0) (hx : x ≠ 0) :
    Calls Try.prog 32 #[.bool s, .slice A L c, .agg #[.int .i64 sg, .slice A2 L2 c2]] w fun e w' => e = .returned (.bool false) ∧ Ext w w' := by
  obtain rfl : sg = 0 := h2.sign
  have hbl : bl 0 ≤ 8796093022208 := Nat.zero_le _
  have HI : Hid (∀ w', Ext w w' → Calls Try.prog 80 #[.slice A L c, .slice A2 L2 c2] w' fun e w'' => e = .returned (.bool false) ∧ Ext w' w'') := fun w' hx' => by
    rw [h1.len, h2.len]
    refine (is_any (h1.no.ext hx').nr (h2.bn.ext hx') hbl).mono ?_
    rintro e w'' ⟨rfl, hx2⟩
    refine ⟨?_, hx2⟩
    rw [decide_eq_false]
    intro h
    have := congrArg (val B32) h
    rw [val_digs B32_two, val_digs B32_two] at this
    simp at this
    omega
  by_cases hn : x < 0
  · obtain rfl : s = true := by rw [h1.sign]; exact decide_eq_true hn
    clear h1 h2 HI
    go_enter Try.func32, Try.ntmps32
    go_wp2_with fail
    go_ret
    exact ⟨rfl, Ext.alloc _ _⟩
  · obtain rfl : s = false := by rw [h1.sign]; exact decide_eq_false hn
    clear h1 h2
    go_enter Try.func32, Try.ntmps32
    go_wp2_with fail
    refine (HI.out _ (Ext.alloc _ _)).mono ?_
    rintro e w' ⟨rfl, hx⟩
    go_wp2_with fail
    go_ret
    exact ⟨rfl, (Ext.alloc _ _).trans hx⟩
set_option maxHeartbeats 4000000 in
set_option maxRecDepth 100000 in
theorem qis_no {w : World} {s : Bool} {A B : Option Addr} {c L d M N g : Nat} {q : Rat} {g1 h1 : Int} {A1 B1 : Option Addr} {c1 d1 L1 M1 K1 : Nat} {q1 : Rat} (h : RO w g s A c L B d M N q) (z1 : QR w g1 A1 c1 L1 h1 B1 d1 M1 K1 q1) (hq1 : q1 = 0) (hq : q ≠ 0) (hs1 : K1 ≤ 1000000000) :
    Calls Try.prog 74 #[.bool s, .slice A L c, .slice B M d, Value.agg #[.int .i64 g1, .slice A1 L1 c1, .int .i64 h1, .slice B1 M1 d1]] w fun e w' => e = .returned (.bool false) ∧ Ext w w' := by
  subst hq1
  have hn : q.num ≠ 0 := fun h5 => hq ((num_sign0 q).2 (by rw [h5]; rfl))
  have HR : Hid (∀ w', Ext w w' → Calls Try.prog 93 #[Value.agg #[.int .i64 g1, .slice A1 L1 c1, .int .i64 h1, .slice B1 M1 d1]] w' (RetQC w' 0)) := fun w' hx => reduced_r (z1.ext hx) hs1
  have H1 : Hid (∀ w' g A2 c2 L2, Ext w w' → RZ w' g A2 c2 L2 (0 : Rat).num → Calls Try.prog 32 #[.bool s, .slice A L c, .agg #[.int .i64 g, .slice A2 L2 c2]] w' fun e w'' => e = .returned (.bool false) ∧ Ext w' w'') := fun w' g A2 c2 L2 hx hz => is_rz_no (h.num.ext hx) hz hn
  clear h z1
  go_enter Try.func74, Try.ntmps74
  go_wp2_with fail
  obtain ⟨w0, hw0⟩ : ∃ z : World, z = (w.alloc (.cells #[.int .i64 g1, .slice A1 L1 c1, .int .i64 h1, .slice B1 M1 d1] 38)) := ⟨_, rfl⟩
  rw [← hw0]
  have bxa : BK w0 (w.heap.size) 38 #[.int .i64 g1, .slice A1 L1 c1, .int .i64 h1, .slice B1 M1 d1] := by rw [hw0]; have h5 := (BK.new w #[.int .i64 g1, .slice A1 L1 c1, .int .i64 h1, .slice B1 M1 d1] 38); simpa only [World.size_alloc] using h5
  have hszw0 : w0.heap.size = w.heap.size + 1 := by rw [hw0]; simp only [World.size_alloc]
  have xw0 : Ext w w0 := by rw [hw0]; exact (Ext.alloc _ _)
  clear hw0
  refine (HR.out _ (by repeat' (first | with_reducible exact Ext.refl _ | with_reducible assumption | with_reducible apply Ext.alloc_r | with_reducible apply Ext.drew_r | with_reducible apply Ext.drewN_r | with_reducible refine Ext.trans ?_ ‹Ext _ _›))).mono ?_
  rintro e w1 ⟨gr, Ar, cr, Lr, hr, Br, dr, Mr, rfl, r1, r2, x1⟩
  replace bxa := bxa.ext x1
  have szw1 : w0.heap.size ≤ w1.heap.size := x1.size
  have R1 := Lib.hid r1
  clear r1 r2 HR
  have ka_0 := bxa.c 0 (.int .i64 g1) rfl
  have ka_1 := bxa.c 1 (.slice A1 L1 c1) rfl
  have ka_2 := bxa.c 2 (.int .i64 h1) rfl
  have ka_3 := bxa.c 3 (.slice B1 M1 d1) rfl
  have t1a_0 := fun (o0 : Obj) => ((Ext.alloc w1 o0).cell (bxa.c 0 (.int .i64 g1) rfl))
  have t1a_1 := fun (o0 : Obj) => ((Ext.alloc w1 o0).cell (bxa.c 1 (.slice A1 L1 c1) rfl))
  have t1a_2 := fun (o0 : Obj) => ((Ext.alloc w1 o0).cell (bxa.c 2 (.int .i64 h1) rfl))
  have t1a_3 := fun (o0 : Obj) => ((Ext.alloc w1 o0).cell (bxa.c 3 (.slice B1 M1 d1) rfl))
  go_wp2_with fail
  clear ka_0 ka_1 ka_2 ka_3 t1a_0 t1a_1 t1a_2 t1a_3
  obtain ⟨w2, hw⟩ : ∃ z : World, z = (w1.alloc (.cells #[.int .i64 gr, .slice Ar Lr cr, .int .i64 hr, .slice Br Mr dr] 38)) := ⟨_, rfl⟩
  rw [← hw]
  have x2 : Ext w1 w2 := by rw [hw]; exact (Ext.alloc _ _)
  replace bxa := bxa.ext x2
  have bxb : BK w2 (w1.heap.size) 38 #[.int .i64 gr, .slice Ar Lr cr, .int .i64 hr, .slice Br Mr dr] := by rw [hw]; have h5 := (BK.new w1 #[.int .i64 gr, .slice Ar Lr cr, .int .i64 hr, .slice Br Mr dr] 38); simpa only [World.size_alloc] using h5
  have szw2 : w2.heap.size = w1.heap.size + 1 := by rw [hw]; simp only [World.size_alloc]
  clear hw
  refine (H1.out _ _ _ _ _ (by repeat' (first | with_reducible exact Ext.refl _ | with_reducible assumption | with_reducible apply Ext.alloc_r | with_reducible apply Ext.drew_r | with_reducible apply Ext.drewN_r | with_reducible refine Ext.trans ?_ ‹Ext _ _›)) (R1.out.ext (by repeat' (first | with_reducible exact Ext.refl _ | with_reducible assumption | with_reducible apply Ext.alloc_r | with_reducible apply Ext.drew_r | with_reducible apply Ext.drewN_r | with_reducible refine Ext.trans ?_ ‹Ext _ _›)))).mono ?_
  rintro e w3 ⟨rfl, x3⟩
  have szw3 : w2.heap.size ≤ w3.heap.size := x3.size
  replace bxa := bxa.ext x3
  replace bxb := bxb.ext x3
  have x0w : Ext w w3 := (by repeat' (first | with_reducible exact Ext.refl _ | with_reducible assumption | with_reducible apply Ext.alloc_r | with_reducible apply Ext.drew_r | with_reducible apply Ext.drewN_r | with_reducible refine Ext.trans ?_ ‹Ext _ _›))
  clear R1 H1
  have ka_0 := bxa.c 0 (.int .i64 g1) rfl
  have ka_1 := bxa.c 1 (.slice A1 L1 c1) rfl
  have ka_2 := bxa.c 2 (.int .i64 h1) rfl
  have ka_3 := bxa.c 3 (.slice B1 M1 d1) rfl
  have kb_0 := bxb.c 0 (.int .i64 gr) rfl
  have kb_1 := bxb.c 1 (.slice Ar Lr cr) rfl
  have kb_2 := bxb.c 2 (.int .i64 hr) rfl
  have kb_3 := bxb.c 3 (.slice Br Mr dr) rfl
  go_wp2_with fail
  clear ka_0 ka_1 ka_2 ka_3 kb_0 kb_1 kb_2 kb_3
  go_ret
  exact ⟨rfl, x0w⟩
set_option maxHeartbeats 4000000 in
set_option maxRecDepth 100000 in
theorem lis_no {w : World} {s1 : Bool} {A1 B1 : Option Addr} {c1 L1 d1 M1 N g : Nat} {q : Rat} {g2 h2 : Int} {A2 B2 : Option Addr} {c2 d2 L2 M2 K2 : Nat} {q2 : Rat} (h : RO w g s1 A1 c1 L1 B1 d1 M1 N q) (z1 : QR w g2 A2 c2 L2 h2 B2 d2 M2 K2 q2) (hq1 : q2 = 0) (hq : q ≠ 0) (hs1 : K2 ≤ 1000000000) :
    Calls Try.prog 21 #[Value.agg #[.bool s1, .slice A1 L1 c1, .slice B1 M1 d1], Value.agg #[.int .i64 g2, .slice A2 L2 c2, .int .i64 h2, .slice B2 M2 d2]] w fun e w' => e = .returned (.bool false) ∧ Ext w w' := by
  have HI : Hid (∀ w', Ext w w' → Calls Try.prog 74 #[.bool s1, .slice A1 L1 c1, .slice B1 M1 d1, Value.agg #[.int .i64 g2, .slice A2 L2 c2, .int .i64 h2, .slice B2 M2 d2]] w' fun e w'' => e = .returned (.bool false) ∧ Ext w' w'') := fun w' hx => qis_no (h.ext hx) (z1.ext hx) hq1 hq hs1
  clear h z1 hq hq1
  go_enter Try.func21, Try.ntmps21
  go_wp2_with fail
  obtain ⟨w0, hw0⟩ : ∃ z : World, z = ((w.alloc (.cells #[.bool s1, .slice A1 L1 c1, .slice B1 M1 d1] 27)).alloc (.cells #[.int .i64 g2, .slice A2 L2 c2, .int .i64 h2, .slice B2 M2 d2] 38)) := ⟨_, rfl⟩
  rw [← hw0]
  have bxa : BK w0 (w.heap.size) 27 #[.bool s1, .slice A1 L1 c1, .slice B1 M1 d1] := by rw [hw0]; have h5 := (BK.ext (BK.new w #[.bool s1, .slice A1 L1 c1, .slice B1 M1 d1] 27) (Ext.alloc _ (.cells #[.int .i64 g2, .slice A2 L2 c2, .int .i64 h2, .slice B2 M2 d2] 38))); simpa only [World.size_alloc] using h5
  have bxb : BK w0 (w.heap.size + 1) 38 #[.int .i64 g2, .slice A2 L2 c2, .int .i64 h2, .slice B2 M2 d2] := by rw [hw0]; have h5 := (BK.new (w.alloc (.cells #[.bool s1, .slice A1 L1 c1, .slice B1 M1 d1] 27)) #[.int .i64 g2, .slice A2 L2 c2, .int .i64 h2, .slice B2 M2 d2] 38); simpa only [World.size_alloc] using h5
  have hszw0 : w0.heap.size = w.heap.size + 1 + 1 := by rw [hw0]; simp only [World.size_alloc]
  have xw0 : Ext w w0 := by rw [hw0]; exact ((Ext.alloc _ _).trans (Ext.alloc _ _))
  clear hw0
  refine (HI.out _ (by repeat' (first | with_reducible exact Ext.refl _ | with_reducible assumption | with_reducible apply Ext.alloc_r | with_reducible apply Ext.drew_r | with_reducible apply Ext.drewN_r | with_reducible refine Ext.trans ?_ ‹Ext _ _›))).mono ?_
  rintro e w1 ⟨rfl, x1⟩
  have szw1 : w0.heap.size ≤ w1.heap.size := x1.size
  replace bxa := bxa.ext x1
  replace bxb := bxb.ext x1
  have x0w : Ext w w1 := (by repeat' (first | with_reducible exact Ext.refl _ | with_reducible assumption | with_reducible apply Ext.alloc_r | with_reducible apply Ext.drew_r | with_reducible apply Ext.drewN_r | with_reducible refine Ext.trans ?_ ‹Ext _ _›))
  clear HI
  have ka_0 := bxa.c 0 (.bool s1) rfl
  have ka_1 := bxa.c 1 (.slice A1 L1 c1) rfl
  have ka_2 := bxa.c 2 (.slice B1 M1 d1) rfl
  have kb_0 := bxb.c 0 (.int .i64 g2) rfl
  have kb_1 := bxb.c 1 (.slice A2 L2 c2) rfl
  have kb_2 := bxb.c 2 (.int .i64 h2) rfl
  have kb_3 := bxb.c 3 (.slice B2 M2 d2) rfl
  go_wp2_with fail
  clear ka_0 ka_1 ka_2 kb_0 kb_1 kb_2 kb_3
  go_ret
  exact ⟨rfl, x0w⟩
theorem rat_div_ne {a b : Rat} (ha : a ≠ 0) (hb : b ≠ 0) : a / b ≠ 0 := by
  intro h
  apply ha
  rw [← rat_div_mul (a := a) hb, h, Rat.zero_mul]
theorem qr_half {w : World} {g h : Int} {A B : Option Addr} {c d L M : Nat} (h1 : RZ w g A c L 1) (h2 : RZ w h B d M 2) : QR w g A c L h B d M 2 (mkRat 1 2) :=
  ⟨1, 2, h1, h2, by omega, rfl, bl_of_lt (by omega), bl_of_lt (by omega)⟩
theorem qr_zero {w : World} {h : Int} {B : Option Addr} {d M : Nat} (h2 : RZ w h B d M 1) : QR w 0 none 0 0 h B d M 1 0 :=
  ⟨0, 1, ⟨Own.bn (n := 0) (Own.none_ _ 0 _ _), rfl, rfl⟩, h2, by omega, (Rat.zero_mkRat 1).symm, bl_of_lt (by omega), bl_of_lt (by omega)⟩
theorem rv_zero (w : World) : RV w false none 0 0 none 0 0 1 0 :=
  ⟨⟨0, 0, zv_zero w, (zv_zero w).nv, (Rat.zero_mkRat 0).symm, Nat.zero_le _, Nat.zero_le _⟩, Nat.le_refl _⟩
end Go.Proofs.Ytfnmbhjifdfibaa
