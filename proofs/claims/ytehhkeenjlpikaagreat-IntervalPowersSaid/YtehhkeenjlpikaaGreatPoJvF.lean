/- The loops of the reference of chapter 06: powers and Horner schemes. -/
import Derived.Test.YtehhkeenjlpikaaGreatPoJvE
import Derived.Test.YtehhkeenjlpikaaGreatTail
import Derived.Deep.RegionHeldLaw
import Derived.Deep.LoopGhost
import Derived.Deep.QuietTactic
import Derived.BigQuiet
namespace Go.Proofs.YtehhkeenjlpikaaGreat
open Go.RowKit
/-- A list of fractions of the reference, possibly empty. -/
def CQL (w : World) (A : Option Addr) (K : Nat) (qs : List Rat) : Prop := ∃ b off, (qs = [] ∨ A = some ⟨b, off, none⟩) ∧ CQ w b off K qs
theorem CQL.ext {w w' : World} {A : Option Addr} {K : Nat} {qs : List Rat} (h : CQL w A K qs) (hx : Ext w w') : CQL w' A K qs := by
  obtain ⟨b, off, h1, h2⟩ := h
  exact ⟨b, off, h1, h2.ext hx⟩
/-- A fraction of the reference in a box of the call's own. -/
def QB (w : World) (b K : Nat) (q : Rat) : Prop := ∃ g A c L h B d M, BK w b 36 #[.int .i64 g, .slice A L c, .int .i64 h, .slice B M d] ∧ QR w g A c L h B d M K q
theorem QB.mk {w : World} {b K : Nat} {q : Rat} {g h : Int} {A B : Option Addr} {c L d M : Nat} (hb : BK w b 36 #[.int .i64 g, .slice A L c, .int .i64 h, .slice B M d]) (h1 : QR w g A c L h B d M K q) : QB w b K q := ⟨g, A, c, L, h, B, d, M, hb, h1⟩
set_option maxHeartbeats 4000000 in
set_option maxRecDepth 100000 in
theorem jpower_r {w : World} {K n : Nat} {g1 h1 : Int} {A1 B1 : Option Addr} {c1 d1 L1 M1 : Nat} {q1 : Rat} (h_1 : QR w g1 A1 c1 L1 h1 B1 d1 M1 K q1) (hK1 : 1 ≤ K) (hn : n ≤ 1000) (hK : K ≤ 1000) :
    Calls Tryz.prog 73 #[Value.agg #[Value.int IntKind.i64 g1, Value.slice A1 L1 c1, Value.int IntKind.i64 h1, Value.slice B1 M1 d1], .int .i64 n] w (RetQ w (1 + n * K) (q1 ^ n)) := by
  have h_10 := h_1
  go_enter Tryz.func73, Tryz.ntmps73
  go_wp2_with fail
  obtain ⟨w0, hw0⟩ : ∃ z : World, z = ((w.alloc (.cells #[.int .i64 g1, .slice A1 L1 c1, .int .i64 h1, .slice B1 M1 d1] 36)).alloc (.cells #[.int .i64 0, .slice none 0 0, .int .i64 0, .slice none 0 0] 36)) := ⟨_, rfl⟩
  rw [← hw0]
  have bxa : BK w0 (w.heap.size) 36 #[.int .i64 g1, .slice A1 L1 c1, .int .i64 h1, .slice B1 M1 d1] := by rw [hw0]; have h5 := (BK.ext (BK.new w #[.int .i64 g1, .slice A1 L1 c1, .int .i64 h1, .slice B1 M1 d1] 36) (Ext.alloc _ (.cells #[.int .i64 0, .slice none 0 0, .int .i64 0, .slice none 0 0] 36))); simpa only [World.size_alloc] using h5
  have bxr : BK w0 (w.heap.size + 1) 36 #[.int .i64 0, .slice none 0 0, .int .i64 0, .slice none 0 0] := by rw [hw0]; have h5 := (BK.new (w.alloc (.cells #[.int .i64 g1, .slice A1 L1 c1, .int .i64 h1, .slice B1 M1 d1] 36)) #[.int .i64 0, .slice none 0 0, .int .i64 0, .slice none 0 0] 36); simpa only [World.size_alloc] using h5
  have hszw0 : w0.heap.size = w.heap.size + 1 + 1 := by rw [hw0]; simp only [World.size_alloc]
  have xw0 : Ext w w0 := by rw [hw0]; exact ((Ext.alloc _ _).trans (Ext.alloc _ _))
  clear hw0
  refine (jnumber_r (n := 1) (K := 1) bl_one (by omega) (by omega)).mono ?_
  rintro e w1 ⟨gp, Ap, cp, Lp, hp, Bp, dp, Mp, rfl, p, x1⟩
  have szw1 : w0.heap.size ≤ w1.heap.size := x1.size
  replace bxa := bxa.ext x1
  replace bxr := bxr.ext x1
  have HP := Lib.hid p
  clear p
  have ka_0 := bxa.c 0 (.int .i64 g1) rfl
  have ka_1 := bxa.c 1 (.slice A1 L1 c1) rfl
  have ka_2 := bxa.c 2 (.int .i64 h1) rfl
  have ka_3 := bxa.c 3 (.slice B1 M1 d1) rfl
  have kr_0 := bxr.c 0 (.int .i64 0) rfl
  have kr_1 := bxr.c 1 (.slice none 0 0) rfl
  have kr_2 := bxr.c 2 (.int .i64 0) rfl
  have kr_3 := bxr.c 3 (.slice none 0 0) rfl
  have t1a_0 := fun (o0 : Obj) => ((Ext.alloc w1 o0).cell (bxa.c 0 (.int .i64 g1) rfl))
  have t1a_1 := fun (o0 : Obj) => ((Ext.alloc w1 o0).cell (bxa.c 1 (.slice A1 L1 c1) rfl))
  have t1a_2 := fun (o0 : Obj) => ((Ext.alloc w1 o0).cell (bxa.c 2 (.int .i64 h1) rfl))
  have t1a_3 := fun (o0 : Obj) => ((Ext.alloc w1 o0).cell (bxa.c 3 (.slice B1 M1 d1) rfl))
  have t1r_0 := fun (o0 : Obj) => ((Ext.alloc w1 o0).cell (bxr.c 0 (.int .i64 0) rfl))
  have t1r_1 := fun (o0 : Obj) => ((Ext.alloc w1 o0).cell (bxr.c 1 (.slice none 0 0) rfl))
  have t1r_2 := fun (o0 : Obj) => ((Ext.alloc w1 o0).cell (bxr.c 2 (.int .i64 0) rfl))
  have t1r_3 := fun (o0 : Obj) => ((Ext.alloc w1 o0).cell (bxr.c 3 (.slice none 0 0) rfl))
  go_wp2_with fail
  clear ka_0 ka_1 ka_2 ka_3 kr_0 kr_1 kr_2 kr_3 t1a_0 t1a_1 t1a_2 t1a_3 t1r_0 t1r_1 t1r_2 t1r_3
  obtain ⟨w2, hw⟩ : ∃ z : World, z = (w1.alloc (.cells #[.int .i64 gp, .slice Ap Lp cp, .int .i64 hp, .slice Bp Mp dp] 36)) := ⟨_, rfl⟩
  rw [← hw]
  have x2 : Ext w1 w2 := by rw [hw]; exact (Ext.alloc _ _)
  replace bxa := bxa.ext x2
  replace bxr := bxr.ext x2
  have bxo : BK w2 (w1.heap.size) 36 #[.int .i64 gp, .slice Ap Lp cp, .int .i64 hp, .slice Bp Mp dp] := by rw [hw]; have h5 := (BK.new w1 #[.int .i64 gp, .slice Ap Lp cp, .int .i64 hp, .slice Bp Mp dp] 36); simpa only [World.size_alloc] using h5
  have szw2 : w2.heap.size = w1.heap.size + 1 := by rw [hw]; simp only [World.size_alloc]
  clear hw
  have HV : Hid (QB w2 w1.heap.size (1 + 0 * K) (q1 ^ 0)) := QB.mk bxo (by rw [Nat.zero_mul, Rat.pow_zero]; exact HP.out.ext x2)
  have xwv : Ext w w2 := (by with_reducible repeat' first | exact Ext.refl _ | assumption | apply Ext.alloc_r | apply Ext.drew_r | apply Ext.drewN_r | refine Ext.trans ?_ ‹Ext _ _›)
  have bxr0 := bxr
  have bxa0 := bxa
  clear HP bxo bxr bxa
  obtain ⟨bo, hbo⟩ : ∃ b, b = w1.heap.size := ⟨_, rfl⟩
  rw [← hbo] at HV
  rw [← hbo]
  have hbo2 : w.heap.size + 1 + 1 ≤ bo := by omega
  clear hbo
  go_loopg [6] n (fun kk iv wr => ∃ (k : Nat), iv = .int .i64 k ∧ k ≤ n ∧ Hid (QB wr bo (1 + k * K) (q1 ^ k)) ∧ Hid (n - k ≤ kk) ∧ BK wr w.heap.size 36 #[.int .i64 g1, .slice A1 L1 c1, .int .i64 h1, .slice B1 M1 d1] ∧ BK wr (w.heap.size + 1) 36 #[.int .i64 0, .slice none 0 0, .int .i64 0, .slice none 0 0] ∧ Ext w wr)
  case atStart => exact ⟨0, rfl, by omega, HV, Nat.sub_le _ _, bxa0, bxr0, xwv⟩
  case round =>
    clear HV bxr0 bxa0 xwv
    obtain ⟨k, rfl, hk, HQB, HK, bxa, bxr, hxr⟩ := hrel
    by_cases hlt : k < n
    · obtain ⟨gla, Ala, cla, Lla, hla, Bla, dla, Mla, bxo, oo⟩ := HQB.out
      have HKM : Hid (k + 1 ≤ n ∧ n - (k + 1) < gk) := ⟨by omega, by have h5 : n - k ≤ gk := HK.out; omega⟩
      have HE : Hid (q1 ^ (k + 1) = q1 ^ k * q1 ∧ 1 + (k + 1) * K = 1 + k * K + K) := ⟨Rat.pow_succ _ _, by rw [Nat.succ_mul]; omega⟩
      have hD : 1 + k * K ≤ 1000000000 := by
        have h5 : k * K ≤ 1000 * 1000 := Nat.mul_le_mul (by omega) (by omega)
        omega
      have szr := hxr.size
      clear HQB HK
      go_upto_region 5 with fail
      have ka_0 := bxa.c 0 (.int .i64 g1) rfl
      have ka_1 := bxa.c 1 (.slice A1 L1 c1) rfl
      have ka_2 := bxa.c 2 (.int .i64 h1) rfl
      have ka_3 := bxa.c 3 (.slice B1 M1 d1) rfl
      have ko_0 := bxo.c 0 (.int .i64 gla) rfl
      have ko_1 := bxo.c 1 (.slice Ala Lla cla) rfl
      have ko_2 := bxo.c 2 (.int .i64 hla) rfl
      have ko_3 := bxo.c 3 (.slice Bla Mla dla) rfl
      go_wp2_with fail
      clear ka_0 ka_1 ka_2 ka_3 ko_0 ko_1 ko_2 ko_3
      refine (qmul_r (oo.ext (by with_reducible repeat' first | exact Ext.refl _ | assumption | apply Ext.alloc_r | apply Ext.drew_r | apply Ext.drewN_r | refine Ext.trans ?_ ‹Ext _ _›)) (h_10.ext (by with_reducible repeat' first | exact Ext.refl _ | assumption | apply Ext.alloc_r | apply Ext.drew_r | apply Ext.drewN_r | refine Ext.trans ?_ ‹Ext _ _›)) (by omega) (by omega)).mono ?_
      rintro e w3 ⟨gz, Az, cz, Lz, hz, Bz, dz, Mz, rfl, z, x3⟩
      have szw3 : wr.heap.size ≤ w3.heap.size := x3.size
      replace bxa := bxa.ext x3
      replace bxr := bxr.ext x3
      replace bxo := bxo.ext x3
      have HZ := Lib.hid z
      clear z
      have ka_0 := bxa.c 0 (.int .i64 g1) rfl
      have ka_1 := bxa.c 1 (.slice A1 L1 c1) rfl
      have ka_2 := bxa.c 2 (.int .i64 h1) rfl
      have ka_3 := bxa.c 3 (.slice B1 M1 d1) rfl
      have ko_0 := bxo.c 0 (.int .i64 gla) rfl
      have fo_0 := bxo.f 0
      have ko_1 := bxo.c 1 (.slice Ala Lla cla) rfl
      have fo_1 := bxo.f 1
      have ko_2 := bxo.c 2 (.int .i64 hla) rfl
      have fo_2 := bxo.f 2
      have ko_3 := bxo.c 3 (.slice Bla Mla dla) rfl
      have fo_3 := bxo.f 3
      go_wp2_with fail
      clear ka_0 ka_1 ka_2 ka_3 ko_0 fo_0 ko_1 fo_1 ko_2 fo_2 ko_3 fo_3
      have z := HZ.out
      clear HZ
      obtain ⟨w4, hw⟩ : ∃ z : World, z = ((((w3.setCell ⟨bo, 0, none⟩ (.int .i64 gz)).setCell ⟨bo, 1, none⟩ (.slice Az Lz cz)).setCell ⟨bo, 2, none⟩ (.int .i64 hz)).setCell ⟨bo, 3, none⟩ (.slice Bz Mz dz)) := ⟨_, rfl⟩
      rw [← hw]
      have kw4 : Kept w3 w4 := by rw [hw]; exact (Kept.set_ (Kept.set_ (Kept.set_ (Kept.set_ (Kept.refl _) bxo.isBox plain_Q) (IsBox.set_ bxo.isBox) plain_Q) (IsBox.set_ (IsBox.set_ bxo.isBox)) plain_Q) (IsBox.set_ (IsBox.set_ (IsBox.set_ bxo.isBox))) plain_Q)
      have nba : BK w4 (w.heap.size) 36 #[.int .i64 g1, .slice A1 L1 c1, .int .i64 h1, .slice B1 M1 d1] := by rw [hw]; exact (BK.far (BK.far (BK.far (BK.far bxa (show w.heap.size ≠ bo by omega) 0 _) (show w.heap.size ≠ bo by omega) 1 _) (show w.heap.size ≠ bo by omega) 2 _) (show w.heap.size ≠ bo by omega) 3 _)
      have nbr : BK w4 ((w.heap.size + 1)) 36 #[.int .i64 0, .slice none 0 0, .int .i64 0, .slice none 0 0] := by rw [hw]; exact (BK.far (BK.far (BK.far (BK.far bxr (show (w.heap.size + 1) ≠ bo by omega) 0 _) (show (w.heap.size + 1) ≠ bo by omega) 1 _) (show (w.heap.size + 1) ≠ bo by omega) 2 _) (show (w.heap.size + 1) ≠ bo by omega) 3 _)
      have nbo : BK w4 (bo) 36 #[.int .i64 gz, .slice Az Lz cz, .int .i64 hz, .slice Bz Mz dz] := by rw [hw]; exact (BK.set (i := 3) (u := .slice Bz Mz dz) (vs' := #[.int .i64 gz, .slice Az Lz cz, .int .i64 hz, .slice Bz Mz dz]) (BK.set (i := 2) (u := .int .i64 hz) (vs' := #[.int .i64 gz, .slice Az Lz cz, .int .i64 hz, .slice Bla Mla dla]) (BK.set (i := 1) (u := .slice Az Lz cz) (vs' := #[.int .i64 gz, .slice Az Lz cz, .int .i64 hla, .slice Bla Mla dla]) (BK.set (i := 0) (u := .int .i64 gz) (vs' := #[.int .i64 gz, .slice Ala Lla cla, .int .i64 hla, .slice Bla Mla dla]) bxo rfl) rfl) rfl) rfl)
      have x4 : Ext w w4 := by rw [hw]; have hxp : Ext w w3 := (by with_reducible repeat' first | exact Ext.refl _ | assumption | apply Ext.alloc_r | apply Ext.drew_r | apply Ext.drewN_r | refine Ext.trans ?_ ‹Ext _ _›); exact (Ext.set_ (Ext.set_ (Ext.set_ (Ext.set_ hxp (show _ ≤ bo by omega)) (show _ ≤ bo by omega)) (show _ ≤ bo by omega)) (show _ ≤ bo by omega))
      clear bxa
      clear bxr
      clear bxo
      have bxa := nba
      clear nba
      have bxr := nbr
      clear nbr
      have bxo := nbo
      clear nbo
      have szw4 : w4.heap.size = w3.heap.size := by rw [hw]; simp
      replace z := (z.ext (by with_reducible repeat' first | exact Ext.refl _ | assumption | apply Ext.alloc_r | apply Ext.drew_r | apply Ext.drewN_r | refine Ext.trans ?_ ‹Ext _ _›)).kept kw4
      clear hw kw4
      have HQ2 : Hid (QB w4 bo (1 + (k + 1) * K) (q1 ^ (k + 1))) := by show QB _ _ _ _; rw [HE.out.1, HE.out.2]; exact QB.mk bxo z
      have xw9 : Ext w w4 := (by with_reducible repeat' first | exact Ext.refl _ | assumption | apply Ext.alloc_r | apply Ext.drew_r | apply Ext.drewN_r | refine Ext.trans ?_ ‹Ext _ _›)
      clear bxo z
      go_roundg (n - (k + 1))
      case measure => exact HKM.out.2
      case rel => exact ⟨k + 1, by go_num, HKM.out.1, HQ2, Nat.le_refl _, bxa, bxr, xw9⟩
    · obtain rfl : k = n := by omega
      obtain ⟨gla, Ala, cla, Lla, hla, Bla, dla, Mla, bxo, oo⟩ := HQB.out
      have szr := hxr.size
      clear HQB HK hlt hk
      have ka_0 := bxa.c 0 (.int .i64 g1) rfl
      have ka_1 := bxa.c 1 (.slice A1 L1 c1) rfl
      have ka_2 := bxa.c 2 (.int .i64 h1) rfl
      have ka_3 := bxa.c 3 (.slice B1 M1 d1) rfl
      have kr_0 := bxr.c 0 (.int .i64 0) rfl
      have fr_0 := bxr.f 0
      have kr_1 := bxr.c 1 (.slice none 0 0) rfl
      have fr_1 := bxr.f 1
      have kr_2 := bxr.c 2 (.int .i64 0) rfl
      have fr_2 := bxr.f 2
      have kr_3 := bxr.c 3 (.slice none 0 0) rfl
      have fr_3 := bxr.f 3
      have ko_0 := bxo.c 0 (.int .i64 gla) rfl
      have ko_1 := bxo.c 1 (.slice Ala Lla cla) rfl
      have ko_2 := bxo.c 2 (.int .i64 hla) rfl
      have ko_3 := bxo.c 3 (.slice Bla Mla dla) rfl
      go_wp2_with fail
      clear ka_0 ka_1 ka_2 ka_3 kr_0 fr_0 kr_1 fr_1 kr_2 fr_2 kr_3 fr_3 ko_0 ko_1 ko_2 ko_3
      obtain ⟨w5, hw⟩ : ∃ z : World, z = ((((wr.setCell ⟨(w.heap.size + 1), 0, none⟩ (.int .i64 gla)).setCell ⟨(w.heap.size + 1), 1, none⟩ (.slice Ala Lla cla)).setCell ⟨(w.heap.size + 1), 2, none⟩ (.int .i64 hla)).setCell ⟨(w.heap.size + 1), 3, none⟩ (.slice Bla Mla dla)) := ⟨_, rfl⟩
      rw [← hw]
      have kw5 : Kept wr w5 := by rw [hw]; exact (Kept.set_ (Kept.set_ (Kept.set_ (Kept.set_ (Kept.refl _) bxr.isBox plain_Q) (IsBox.set_ bxr.isBox) plain_Q) (IsBox.set_ (IsBox.set_ bxr.isBox)) plain_Q) (IsBox.set_ (IsBox.set_ (IsBox.set_ bxr.isBox))) plain_Q)
      have nba : BK w5 (w.heap.size) 36 #[.int .i64 g1, .slice A1 L1 c1, .int .i64 h1, .slice B1 M1 d1] := by rw [hw]; exact (BK.far (BK.far (BK.far (BK.far bxa (show w.heap.size ≠ (w.heap.size + 1) by omega) 0 _) (show w.heap.size ≠ (w.heap.size + 1) by omega) 1 _) (show w.heap.size ≠ (w.heap.size + 1) by omega) 2 _) (show w.heap.size ≠ (w.heap.size + 1) by omega) 3 _)
      have nbr : BK w5 ((w.heap.size + 1)) 36 #[.int .i64 gla, .slice Ala Lla cla, .int .i64 hla, .slice Bla Mla dla] := by rw [hw]; exact (BK.set (i := 3) (u := .slice Bla Mla dla) (vs' := #[.int .i64 gla, .slice Ala Lla cla, .int .i64 hla, .slice Bla Mla dla]) (BK.set (i := 2) (u := .int .i64 hla) (vs' := #[.int .i64 gla, .slice Ala Lla cla, .int .i64 hla, .slice none 0 0]) (BK.set (i := 1) (u := .slice Ala Lla cla) (vs' := #[.int .i64 gla, .slice Ala Lla cla, .int .i64 0, .slice none 0 0]) (BK.set (i := 0) (u := .int .i64 gla) (vs' := #[.int .i64 gla, .slice none 0 0, .int .i64 0, .slice none 0 0]) bxr rfl) rfl) rfl) rfl)
      have nbo : BK w5 (bo) 36 #[.int .i64 gla, .slice Ala Lla cla, .int .i64 hla, .slice Bla Mla dla] := by rw [hw]; exact (BK.far (BK.far (BK.far (BK.far bxo (show bo ≠ (w.heap.size + 1) by omega) 0 _) (show bo ≠ (w.heap.size + 1) by omega) 1 _) (show bo ≠ (w.heap.size + 1) by omega) 2 _) (show bo ≠ (w.heap.size + 1) by omega) 3 _)
      have x5 : Ext w w5 := by rw [hw]; have hxp : Ext w wr := (by with_reducible repeat' first | exact Ext.refl _ | assumption | apply Ext.alloc_r | apply Ext.drew_r | apply Ext.drewN_r | refine Ext.trans ?_ ‹Ext _ _›); exact (Ext.set_ (Ext.set_ (Ext.set_ (Ext.set_ hxp (show _ ≤ (w.heap.size + 1) by omega)) (show _ ≤ (w.heap.size + 1) by omega)) (show _ ≤ (w.heap.size + 1) by omega)) (show _ ≤ (w.heap.size + 1) by omega))
      clear bxa
      clear bxr
      clear bxo
      have bxa := nba
      clear nba
      have bxr := nbr
      clear nbr
      have bxo := nbo
      clear nbo
      have szw5 : w5.heap.size = wr.heap.size := by rw [hw]; simp
      replace oo := (oo.ext (by with_reducible repeat' first | exact Ext.refl _ | assumption | apply Ext.alloc_r | apply Ext.drew_r | apply Ext.drewN_r | refine Ext.trans ?_ ‹Ext _ _›)).kept kw5
      clear hw kw5
      have HU := Lib.hid oo
      clear oo
      have kr_0 := bxr.c 0 (.int .i64 gla) rfl
      have kr_1 := bxr.c 1 (.slice Ala Lla cla) rfl
      have kr_2 := bxr.c 2 (.int .i64 hla) rfl
      have kr_3 := bxr.c 3 (.slice Bla Mla dla) rfl
      refine bodyPost_ret (v := Value.agg #[Value.int IntKind.i64 gla, Value.slice Ala Lla cla, Value.int IntKind.i64 hla, Value.slice Bla Mla dla]) (by simp [results, Tryz.results73, go_sem, kr_0, kr_1, kr_2, kr_3]) rfl ?_
      exact ⟨_, _, _, _, _, _, _, _, rfl, HU.out, x5⟩
end Go.Proofs.YtehhkeenjlpikaaGreat
