/- The contract of rational.Decimal. -/
import Derived.Test.YtfnmbhjifdfibaaDecP
import Derived.Test.YtfnmbhjifdfibaaPowA
import Derived.Test.YtfnmbhjifdfibaaShelfRep
import Derived.Deep.RegionHeldLaw
import Derived.Deep.LoopGhost
import Derived.Deep.QuietTactic
import Derived.BigQuiet
namespace Go.Proofs.Ytfnmbhjifdfibaa
open Go.RowKit
/-- An integer in new memory, in a box that may be written. -/
def PutN (w w' : World) (x : Int) (s : Value) : Prop := ∃ b sb A c L, s = .pointer (some ⟨b, 0, none⟩) ∧ w.heap.size ≤ b ∧ BW w' b 25 (.bool sb) (.slice A L c) ∧ ZO w' w.heap.size sb A c L x ∧ Ext w w'
theorem PutN.mk {w w' : World} {b : Nat} {sb : Bool} {x : Int} {A : Option Addr} {c L : Nat} (hb : w.heap.size ≤ b) (h1 : IsBox w' b 25) (h2 : w'.cell? ⟨b, 0, none⟩ = some (.bool sb)) (h3 : w'.cell? ⟨b, 1, none⟩ = some (.slice A L c)) (h4 : w'.frozen? ⟨b, 0, none⟩ = false) (h5 : w'.frozen? ⟨b, 1, none⟩ = false) (hz : ZO w' w.heap.size sb A c L x) (hx : Ext w w') : PutN w w' x (.pointer (some ⟨b, 0, none⟩)) :=
  ⟨b, sb, A, c, L, rfl, hb, ⟨h1, h2, h3, h4, h5⟩, hz, hx⟩
theorem repeat0 {w : World} {c : Nat} (hc : c ≤ 1000) : Calls Try.prog 65 #[.string ⟨#[48]⟩, .int .i64 c] w fun e w' => ∃ s, e = .returned (.string s) ∧ bs s = List.replicate c 48 ∧ Ext w w' := by
  refine (Try.strings_Repeat ⟨#[48]⟩ c w (by omega) (by show 1 * c ≤ _; omega)).mono ?_
  rintro e w' ⟨rfl, hx⟩
  exact ⟨_, rfl, bs_repeat c, hx⟩
theorem toZd {P : Program} {f : Nat} {args : Array Value} {w : World} {x y : Int} (e : x = y) (h : Calls P f args w (RetZ w x)) : Calls P f args w (RetZ w y) := by rw [← e]; exact h
theorem dl_two : dl 2 ≤ 1 := dl_le (by unfold B32; omega)
theorem dl_ten : dl (10 : Int).natAbs ≤ 1 := dl_le (by show 10 < _; unfold B32; omega)
theorem fmt_len40 {x : Int} (h : dl x.natAbs ≤ 60) : (fmtL 10 x).length ≤ 1922 := by have := fmt_le (b := 10) (by omega) x; omega
theorem toQR {P : Program} {f : Nat} {args : Array Value} {w : World} {x y z : Int} (e : x = y) (h : Calls P f args w (RetQR w x z)) : Calls P f args w (RetQR w y z) := by rw [← e]; exact h
set_option maxHeartbeats 4000000 in
set_option maxRecDepth 100000 in
theorem rdec_bad {w : World} {p : Int} (hp : p < 0 ∨ 1000 < p) {s1 : Bool} {A1 B1 : Option Addr} {c1 d1 L1 M1 : Nat} :
    Calls Try.prog 14 #[Value.agg #[.bool s1, .slice A1 L1 c1, .slice B1 M1 d1], .int .i64 p] w fun e w' => e = .returned (.tuple #[.string ⟨#[]⟩, .int .i64 1]) ∧ Ext w w' := by
  rcases Int.lt_or_le p 0 with h | h
  · have xw0 : Ext w (w.alloc (.cells #[.bool s1, .slice A1 L1 c1, .slice B1 M1 d1] 27)) := Ext.alloc _ _
    clear hp
    go_enter Try.func14, Try.ntmps14
    go_wp2_with fail
    go_ret2
    exact ⟨rfl, xw0⟩
  · have h2 : 1000 < p := by omega
    have h3 : ¬ p < 0 := by omega
    have xw0 : Ext w (w.alloc (.cells #[.bool s1, .slice A1 L1 c1, .slice B1 M1 d1] 27)) := Ext.alloc _ _
    clear hp
    go_enter Try.func14, Try.ntmps14
    go_wp2_with fail
    go_ret2
    exact ⟨rfl, xw0⟩
set_option maxHeartbeats 4000000 in
set_option maxRecDepth 100000 in
theorem rdec_r {w : World} {s1 : Bool} {A1 B1 : Option Addr} {c1 d1 L1 M1 N1 : Nat} {q1 : Rat} (h1 : RV w s1 A1 c1 L1 B1 d1 M1 N1 q1) (hN : N1 ≤ 8) {p : Nat} (hp : p ≤ 40) :
    Calls Try.prog 14 #[Value.agg #[.bool s1, .slice A1 L1 c1, .slice B1 M1 d1], .int .i64 p] w fun e w' => ∃ s, e = .returned (.tuple #[.string s, .int .i64 0]) ∧ bs s = decT q1 p ∧ Ext w w' := by
  obtain ⟨PW, hPW⟩ : ∃ PW : Int, PW = (10 : Int) ^ p := ⟨_, rfl⟩
  have bPW : dl PW.natAbs ≤ 40 := by
    rw [hPW]
    rcases Nat.eq_zero_or_pos p with h | h
    · rw [h, Int.pow_zero]; show dl 1 ≤ 40; rw [dl_one]; omega
    · have h5 := dl_pow 10 p h
      have h6 := Nat.mul_le_mul_right p dl_ten
      omega
  have HPOW : Hid (∀ w' {s1 : Bool} {A1 : Option Addr} {c1 L1 : Nat}, ZV w' s1 A1 c1 L1 10 → Calls Try.prog 58 #[.agg #[.bool s1, .slice A1 L1 c1], .int .i64 p] w' (RetZOK w' PW)) := fun w' _ _ _ _ g => by
    rw [hPW]
    have h5 := dl_ten
    exact ipow_z g (by omega) (by have := Nat.mul_le_mul_right p h5; omega) (by omega)
  have HPW := Lib.hid hPW
  clear hPW
  go_enter Try.func14, Try.ntmps14
  go_wp2_with fail
  obtain ⟨w0, hw0⟩ : ∃ z : World, z = (w.alloc (.cells #[.bool s1, .slice A1 L1 c1, .slice B1 M1 d1] 27)) := ⟨_, rfl⟩
  rw [← hw0]
  have bxa : BK w0 (w.heap.size) 27 #[.bool s1, .slice A1 L1 c1, .slice B1 M1 d1] := by rw [hw0]; have h5 := (BK.new w #[.bool s1, .slice A1 L1 c1, .slice B1 M1 d1] 27); simpa only [World.size_alloc] using h5
  have hszw0 : w0.heap.size = w.heap.size + 1 := by rw [hw0]; simp only [World.size_alloc]
  have xw0 : Ext w w0 := by rw [hw0]; exact (Ext.alloc _ _)
  clear hw0
  refine (parts_r (h1.ext (by repeat' (first | with_reducible exact Ext.refl _ | with_reducible assumption | with_reducible apply Ext.alloc_r | with_reducible apply Ext.drew_r | with_reducible apply Ext.drewN_r | with_reducible refine Ext.trans ?_ ‹Ext _ _›)))).mono ?_
  rintro e w1 ⟨xk, yk, sk, Ak, ck, Lk, Bk, dk, Mk, rfl, k1, k2, k3, k4, k5, k6, x1⟩
  have szw1 : w0.heap.size ≤ w1.heap.size := x1.size
  replace bxa := bxa.ext x1
  have HX := Lib.hid (And.intro k1 k2)
  have HV : Hid (((xk.natAbs : Int) * PW * 2 ^ 1 + (yk : Int)) / ((yk : Int) * 2 ^ 1) = decV q1 p) := by show _ = _; rw [k4, decV_mk k3, HPW.out]
  have HVN : Hid (0 ≤ decV q1 p) := by show _ ≤ _; rw [k4]; exact decV_nn k3
  have HSG : Hid (xk.sign = q1.num.sign) := by show _ = _; rw [k4]; exact (rat_sign k3).symm
  have u1 : dl ((xk.natAbs : Int)).natAbs ≤ 8 := by rw [Int.natAbs_natCast]; omega
  have u2 : dl ((yk : Int)).natAbs ≤ 8 := by rw [Int.natAbs_natCast]; omega
  have u3 := dlz_mul (xk.natAbs : Int) PW
  have u4 := dlz_mul ((xk.natAbs : Int) * PW) 2
  have u5 : dl (2 : Int).natAbs ≤ 1 := dl_two
  have u6 := dlz_mul (yk : Int) 2
  clear k1 k2 k4 HPW h1
  have ka_0 := bxa.c 0 (.bool s1) rfl
  have ka_1 := bxa.c 1 (.slice A1 L1 c1) rfl
  have ka_2 := bxa.c 2 (.slice B1 M1 d1) rfl
  have t1a_0 := fun (o0 : Obj) => ((Ext.alloc w1 o0).cell (bxa.c 0 (.bool s1) rfl))
  have t2a_0 := fun (o0 : Obj) (o1 : Obj) => ((Ext.alloc (w1.alloc o0) o1).cell ((Ext.alloc w1 o0).cell (bxa.c 0 (.bool s1) rfl)))
  have t1a_1 := fun (o0 : Obj) => ((Ext.alloc w1 o0).cell (bxa.c 1 (.slice A1 L1 c1) rfl))
  have t2a_1 := fun (o0 : Obj) (o1 : Obj) => ((Ext.alloc (w1.alloc o0) o1).cell ((Ext.alloc w1 o0).cell (bxa.c 1 (.slice A1 L1 c1) rfl)))
  have t1a_2 := fun (o0 : Obj) => ((Ext.alloc w1 o0).cell (bxa.c 2 (.slice B1 M1 d1) rfl))
  have t2a_2 := fun (o0 : Obj) (o1 : Obj) => ((Ext.alloc (w1.alloc o0) o1).cell ((Ext.alloc w1 o0).cell (bxa.c 2 (.slice B1 M1 d1) rfl)))
  go_wp2_with fail
  clear ka_0 ka_1 ka_2 t1a_0 t2a_0 t1a_1 t2a_1 t1a_2 t2a_2
  obtain ⟨w2, hw⟩ : ∃ z : World, z = ((w1.alloc (.cells #[.bool sk, .slice Ak Lk ck] 25)).alloc (.cells #[.bool false, .slice Bk Mk dk] 25)) := ⟨_, rfl⟩
  rw [← hw]
  have x2 : Ext w1 w2 := by rw [hw]; exact ((Ext.alloc _ _).trans (Ext.alloc _ _))
  replace bxa := bxa.ext x2
  have bxnu : BK w2 (w1.heap.size) 25 #[.bool sk, .slice Ak Lk ck] := by rw [hw]; have h5 := (BK.ext (BK.new w1 #[.bool sk, .slice Ak Lk ck] 25) (Ext.alloc _ (.cells #[.bool false, .slice Bk Mk dk] 25))); simpa only [World.size_alloc] using h5
  have bxde : BK w2 (w1.heap.size + 1) 25 #[.bool false, .slice Bk Mk dk] := by rw [hw]; have h5 := (BK.new (w1.alloc (.cells #[.bool sk, .slice Ak Lk ck] 25)) #[.bool false, .slice Bk Mk dk] 25); simpa only [World.size_alloc] using h5
  have szw2 : w2.heap.size = w1.heap.size + 1 + 1 := by rw [hw]; simp only [World.size_alloc]
  clear hw
  refine (of_z (n := 10) (by omega)).mono ?_
  rintro e w3 ⟨si, Ai, ci, Li, rfl, i, x3⟩
  have szw3 : w2.heap.size ≤ w3.heap.size := x3.size
  replace bxa := bxa.ext x3
  replace bxnu := bxnu.ext x3
  replace bxde := bxde.ext x3
  have HI := Lib.hid i
  clear i
  have ka_0 := bxa.c 0 (.bool s1) rfl
  have ka_1 := bxa.c 1 (.slice A1 L1 c1) rfl
  have ka_2 := bxa.c 2 (.slice B1 M1 d1) rfl
  have knu_0 := bxnu.c 0 (.bool sk) rfl
  have knu_1 := bxnu.c 1 (.slice Ak Lk ck) rfl
  have kde_0 := bxde.c 0 (.bool false) rfl
  have kde_1 := bxde.c 1 (.slice Bk Mk dk) rfl
  go_wp2_with fail
  clear ka_0 ka_1 ka_2 knu_0 knu_1 kde_0 kde_1
  refine (HPOW.out _ (HI.out.zv.ext (by repeat' (first | with_reducible exact Ext.refl _ | with_reducible assumption | with_reducible apply Ext.alloc_r | with_reducible apply Ext.drew_r | with_reducible apply Ext.drewN_r | with_reducible refine Ext.trans ?_ ‹Ext _ _›)))).mono ?_
  rintro e w4 ⟨ss, As, cs, Ls, rfl, s, x4⟩
  have szw4 : w3.heap.size ≤ w4.heap.size := x4.size
  replace bxa := bxa.ext x4
  replace bxnu := bxnu.ext x4
  replace bxde := bxde.ext x4
  have HS := Lib.hid s
  clear s HPOW HI
  have ka_0 := bxa.c 0 (.bool s1) rfl
  have ka_1 := bxa.c 1 (.slice A1 L1 c1) rfl
  have ka_2 := bxa.c 2 (.slice B1 M1 d1) rfl
  have knu_0 := bxnu.c 0 (.bool sk) rfl
  have knu_1 := bxnu.c 1 (.slice Ak Lk ck) rfl
  have kde_0 := bxde.c 0 (.bool false) rfl
  have kde_1 := bxde.c 1 (.slice Bk Mk dk) rfl
  have t1a_0 := fun (o0 : Obj) => ((Ext.alloc w4 o0).cell (bxa.c 0 (.bool s1) rfl))
  have t1a_1 := fun (o0 : Obj) => ((Ext.alloc w4 o0).cell (bxa.c 1 (.slice A1 L1 c1) rfl))
  have t1a_2 := fun (o0 : Obj) => ((Ext.alloc w4 o0).cell (bxa.c 2 (.slice B1 M1 d1) rfl))
  have t1nu_0 := fun (o0 : Obj) => ((Ext.alloc w4 o0).cell (bxnu.c 0 (.bool sk) rfl))
  have t1nu_1 := fun (o0 : Obj) => ((Ext.alloc w4 o0).cell (bxnu.c 1 (.slice Ak Lk ck) rfl))
  have t1de_0 := fun (o0 : Obj) => ((Ext.alloc w4 o0).cell (bxde.c 0 (.bool false) rfl))
  have t1de_1 := fun (o0 : Obj) => ((Ext.alloc w4 o0).cell (bxde.c 1 (.slice Bk Mk dk) rfl))
  go_wp2_with fail
  clear ka_0 ka_1 ka_2 knu_0 knu_1 kde_0 kde_1 t1a_0 t1a_1 t1a_2 t1nu_0 t1nu_1 t1de_0 t1de_1
  obtain ⟨w5, hw⟩ : ∃ z : World, z = (w4.alloc (.cells #[.bool ss, .slice As Ls cs] 25)) := ⟨_, rfl⟩
  rw [← hw]
  have x5 : Ext w4 w5 := by rw [hw]; exact (Ext.alloc _ _)
  replace bxa := bxa.ext x5
  replace bxnu := bxnu.ext x5
  replace bxde := bxde.ext x5
  have bxsc : BK w5 (w4.heap.size) 25 #[.bool ss, .slice As Ls cs] := by rw [hw]; have h5 := (BK.new w4 #[.bool ss, .slice As Ls cs] 25); simpa only [World.size_alloc] using h5
  have szw5 : w5.heap.size = w4.heap.size + 1 := by rw [hw]; simp only [World.size_alloc]
  clear hw
  obtain ⟨TW, hTW⟩ : ∃ TW : Int, (xk.natAbs : Int) * PW * 2 ^ 1 = TW := ⟨_, rfl⟩
  obtain ⟨DW, hDW⟩ : ∃ DW : Int, (yk : Int) * 2 ^ 1 = DW := ⟨_, rfl⟩
  have u7 : dl TW.natAbs ≤ 49 := by rw [← hTW, Int.pow_one]; omega
  have u8 : dl DW.natAbs ≤ 9 := by rw [← hDW, Int.pow_one]; omega
  have u9 : 0 < DW := by rw [← hDW]; omega
  have u10 := dlz_add TW (yk : Int)
  have HV2 : Hid ((TW + (yk : Int)) / DW = decV q1 p) := by show _ = _; rw [← hTW, ← hDW]; exact HV.out
  have HTW := Lib.hid hTW
  have HDW := Lib.hid hDW
  clear hTW hDW HV u4 u6
  have knu_0 := bxnu.c 0 (.bool sk) rfl
  have knu_1 := bxnu.c 1 (.slice Ak Lk ck) rfl
  have ksc_0 := bxsc.c 0 (.bool ss) rfl
  have ksc_1 := bxsc.c 1 (.slice As Ls cs) rfl
  have HSZ := Lib.hid (And.intro True.intro (And.intro hszw0 (And.intro szw1 (And.intro szw2 (And.intro szw3 (And.intro szw4 szw5))))))
  clear hszw0 szw1 szw2 szw3 szw4 szw5
  go_wp2_with fail
  go_cut [10] (fun s10 wx => PutN w5 wx TW s10)
  case first =>
    have HK : Hid (∀ w', Ext w5 w' → Ext w5 w' ∧ w'.cell? ⟨w1.heap.size, 0, none⟩ = some (.bool sk) ∧ w'.cell? ⟨w1.heap.size, 1, none⟩ = some (.slice Ak Lk ck) ∧ w'.cell? ⟨w4.heap.size, 0, none⟩ = some (.bool ss) ∧ w'.cell? ⟨w4.heap.size, 1, none⟩ = some (.slice As Ls cs)) := fun w' hk => ⟨hk, hk.cell knu_0, hk.cell knu_1, hk.cell ksc_0, hk.cell ksc_1⟩
    first
    | go_region_held3 (fun w' => Ext w5 w' ∧ w'.cell? ⟨w1.heap.size, 0, none⟩ = some (.bool sk) ∧ w'.cell? ⟨w1.heap.size, 1, none⟩ = some (.slice Ak Lk ck) ∧ w'.cell? ⟨w4.heap.size, 0, none⟩ = some (.bool ss) ∧ w'.cell? ⟨w4.heap.size, 1, none⟩ = some (.slice As Ls cs))
        ((with_reducible refine HK.out _ ?_; (repeat' (first | with_reducible exact Ext.refl _ | with_reducible assumption | with_reducible apply Ext.alloc_r | with_reducible apply Ext.drew_r | with_reducible apply Ext.drewN_r | with_reducible apply Ext.set_r | with_reducible exact Nat.le_refl _ | omega | with_reducible refine Ext.trans ?_ ‹Ext _ _›))))
        (first
          | (go_at_call 59; have hgd := mu; clear hgd; refine (toZd HTW.out (zshl_z (m := 1) (mu.zv.ext (by repeat' (first | with_reducible exact Ext.refl _ | with_reducible assumption | with_reducible apply Ext.alloc_r | with_reducible apply Ext.drew_r | with_reducible apply Ext.drewN_r | with_reducible refine Ext.trans ?_ ‹Ext _ _›))) (by omega) (by omega) rfl)).mono ?_; rintro e w8 ⟨st, At, ct, Lt, rfl, t, x8⟩; (have zs8 := x8.size); (try simp only [World.size_alloc] at zs8); (try ((with_reducible have h8_0 := box_ext (vs := #[.bool false, .slice none 0 0]) x8); have h8_0c0 := (h8_0.1 0 (.bool false) rfl).1; have h8_0f0 := (h8_0.1 0 (.bool false) rfl).2; have h8_0c1 := (h8_0.1 1 (.slice none 0 0) rfl).1; have h8_0f1 := (h8_0.1 1 (.slice none 0 0) rfl).2; have h8_0b := h8_0.2.1; have h8_0z := h8_0.2.2; (try simp only [World.size_alloc] at h8_0b h8_0z h8_0c0 h8_0f0 h8_0c1 h8_0f1); have h8_0m := Nat.ne_of_lt h8_0z; have h8_0n := Nat.ne_of_gt h8_0z; clear h8_0)); (try (have hh : Ext w6 w8 := ?g800; (case g800 => ((repeat' (first | with_reducible exact Ext.refl _ | with_reducible assumption | with_reducible apply Ext.alloc_r | with_reducible apply Ext.drew_r | with_reducible apply Ext.drewN_r | with_reducible refine Ext.trans ?_ ‹Ext _ _›)); done)); replace h6_0f0 := hh.frozen h6_0c0 h6_0f0; replace h6_0c0 := hh.cell h6_0c0; replace h6_0f1 := hh.frozen h6_0c1 h6_0f1; replace h6_0c1 := hh.cell h6_0c1; replace h6_0b := h6_0b.ext hh; have h6_0z2 := Nat.lt_of_lt_of_le h6_0z hh.size; have h6_0m2 := Nat.ne_of_lt h6_0z2; have h6_0n2 := Nat.ne_of_gt h6_0z2; clear hh)); (try (have hh : Ext w7 w8 := ?g810; (case g810 => ((repeat' (first | with_reducible exact Ext.refl _ | with_reducible assumption | with_reducible apply Ext.alloc_r | with_reducible apply Ext.drew_r | with_reducible apply Ext.drewN_r | with_reducible refine Ext.trans ?_ ‹Ext _ _›)); done)); replace h7_0f0 := hh.frozen h7_0c0 h7_0f0; replace h7_0c0 := hh.cell h7_0c0; replace h7_0f1 := hh.frozen h7_0c1 h7_0f1; replace h7_0c1 := hh.cell h7_0c1; replace h7_0b := h7_0b.ext hh; have h7_0z2 := Nat.lt_of_lt_of_le h7_0z hh.size; have h7_0m2 := Nat.ne_of_lt h7_0z2; have h7_0n2 := Nat.ne_of_gt h7_0z2; clear hh)))
          | (go_at_call 60; have hgd := ab; clear hgd; refine (mul_z (ab.zv.ext (by repeat' (first | with_reducible exact Ext.refl _ | with_reducible assumption | with_reducible apply Ext.alloc_r | with_reducible apply Ext.drew_r | with_reducible apply Ext.drewN_r | with_reducible refine Ext.trans ?_ ‹Ext _ _›))) (HS.out.zv.ext (by repeat' (first | with_reducible exact Ext.refl _ | with_reducible assumption | with_reducible apply Ext.alloc_r | with_reducible apply Ext.drew_r | with_reducible apply Ext.drewN_r | with_reducible refine Ext.trans ?_ ‹Ext _ _›))) (by omega) (by omega)).mono ?_; rintro e w7 ⟨smu, Amu, cmu, Lmu, rfl, mu, x7⟩; (have zs7 := x7.size); (try simp only [World.size_alloc] at zs7); (try ((with_reducible have h7_0 := box_ext (vs := #[.bool false, .slice none 0 0]) x7); have h7_0c0 := (h7_0.1 0 (.bool false) rfl).1; have h7_0f0 := (h7_0.1 0 (.bool false) rfl).2; have h7_0c1 := (h7_0.1 1 (.slice none 0 0) rfl).1; have h7_0f1 := (h7_0.1 1 (.slice none 0 0) rfl).2; have h7_0b := h7_0.2.1; have h7_0z := h7_0.2.2; (try simp only [World.size_alloc] at h7_0b h7_0z h7_0c0 h7_0f0 h7_0c1 h7_0f1); have h7_0m := Nat.ne_of_lt h7_0z; have h7_0n := Nat.ne_of_gt h7_0z; clear h7_0)))
          | (go_at_call 61; refine (abs_z (HX.out.1.ext (by repeat' (first | with_reducible exact Ext.refl _ | with_reducible assumption | with_reducible apply Ext.alloc_r | with_reducible apply Ext.drew_r | with_reducible apply Ext.drewN_r | with_reducible refine Ext.trans ?_ ‹Ext _ _›))) (by omega)).mono ?_; rintro e w6 ⟨sab, Aab, cab, Lab, rfl, ab, x6⟩; (have zs6 := x6.size); (try simp only [World.size_alloc, World.size_drew] at zs6); (try ((with_reducible have h6_0 := box_ext (vs := #[.bool false, .slice none 0 0]) ((Ext.drew _).trans x6)); have h6_0c0 := (h6_0.1 0 (.bool false) rfl).1; have h6_0f0 := (h6_0.1 0 (.bool false) rfl).2; have h6_0c1 := (h6_0.1 1 (.slice none 0 0) rfl).1; have h6_0f1 := (h6_0.1 1 (.slice none 0 0) rfl).2; have h6_0b := h6_0.2.1; have h6_0z := h6_0.2.2; (try simp only [World.size_alloc] at h6_0b h6_0z h6_0c0 h6_0f0 h6_0c1 h6_0f1); have h6_0m := Nat.ne_of_lt h6_0z; have h6_0n := Nat.ne_of_gt h6_0z; clear h6_0))))
    | fail
    all_goals (clear HK; go_wp2_with fail; go_meet)
    all_goals
      refine PutN.mk (sb := st) (A := At) (c := ct) (L := Lt) ?_ ?_ ?_ ?_ ?_ ?_ ((t.mono (Ext.size (by repeat' (first | with_reducible exact Ext.refl _ | with_reducible assumption | with_reducible apply Ext.alloc_r | with_reducible apply Ext.drew_r | with_reducible apply Ext.drewN_r | with_reducible refine Ext.trans ?_ ‹Ext _ _›)))).kept ?_) ?_
      · (first | exact Nat.le_refl _ | omega | (simp only [World.size_alloc, World.size_drew]; omega) | (simp; omega))
      · (repeat' (first | with_reducible assumption | with_reducible apply IsBox.set_ | (with_reducible apply IsBox.new; (first | (with_reducible rfl) | simp); done) | with_reducible apply IsBox.alloc_ | with_reducible apply IsBox.drew_ | with_reducible refine IsBox.ext ?_ ‹Ext _ _›))
      · go_simp
      · go_simp
      · go_simp
      · go_simp
      · (repeat' (first | with_reducible exact Kept.refl _ | with_reducible apply Kept.alloc_r | with_reducible apply Kept.drew_r | (with_reducible apply Kept.setZ; (case hb => ((repeat' (first | with_reducible assumption | with_reducible apply IsBox.set_ | (with_reducible apply IsBox.new; (first | (with_reducible rfl) | simp); done) | with_reducible apply IsBox.alloc_ | with_reducible apply IsBox.drew_ | with_reducible refine IsBox.ext ?_ ‹Ext _ _›)); done))) | (with_reducible apply Kept.setI; (case hb => ((repeat' (first | with_reducible assumption | with_reducible apply IsBox.set_ | (with_reducible apply IsBox.new; (first | (with_reducible rfl) | simp); done) | with_reducible apply IsBox.alloc_ | with_reducible apply IsBox.drew_ | with_reducible refine IsBox.ext ?_ ‹Ext _ _›)); done))) | with_reducible refine Kept.trans ?_ (Ext.kept ‹Ext _ _›)))
      · (repeat' (first | with_reducible exact Ext.refl _ | with_reducible assumption | with_reducible apply Ext.alloc_r | with_reducible apply Ext.drew_r | with_reducible apply Ext.drewN_r | with_reducible apply Ext.set_r | with_reducible exact Nat.le_refl _ | omega | with_reducible refine Ext.trans ?_ ‹Ext _ _›))
  case rest =>
    obtain ⟨hszw0, szw1, szw2, szw3, szw4, szw5⟩ := HSZ.out.2
    clear knu_0 knu_1 ksc_0 ksc_1
    have hc_0 := hcut
    obtain ⟨bktw, stw, Atw, ctw, Ltw, rfl, hbtw, hwtw, tw, xxtw⟩ := hc_0
    have x9 := xxtw
    clear xxtw
    obtain ⟨w9, rfl⟩ : ∃ z : World, z = wc := ⟨_, rfl⟩
    have szw9 : w5.heap.size ≤ w9.heap.size := x9.size
    replace bxa := bxa.ext x9
    replace bxnu := bxnu.ext x9
    replace bxde := bxde.ext x9
    replace bxsc := bxsc.ext x9
    have ltw_0 := hwtw.c0
    have ltw_1 := hwtw.c1
    clear hwtw
    have HTT := Lib.hid tw
    clear tw u3
    obtain ⟨V, hV⟩ : ∃ V : Int, (TW + (yk : Int)) / DW = V := ⟨_, rfl⟩
    have v1 : dl V.natAbs ≤ 50 := by
      rw [← hV]
      exact Nat.le_trans (dl_mono (Int.natAbs_ediv_le_natAbs _ _)) (by omega)
    have hVd : V = decV q1 p := by rw [← hV]; exact HV2.out
    have HVD := Lib.hid hVd
    clear hVd HV2
    have HVV := Lib.hid hV
    clear hV
    have kde_0 := bxde.c 0 (.bool false) rfl
    have kde_1 := bxde.c 1 (.slice Bk Mk dk) rfl
    have HSZ := Lib.hid (And.intro True.intro (And.intro hszw0 (And.intro szw1 (And.intro szw2 (And.intro szw3 (And.intro szw4 (And.intro szw5 szw9)))))))
    clear hszw0 szw1 szw2 szw3 szw4 szw5 szw9
    go_wp2_with fail
    go_cut [11, 12] (fun s11 s12 wx => PutN w9 wx V s11 ∧ PutN w9 wx ((TW + (yk : Int)) % DW) s12)
    case first =>
      have HK : Hid (∀ w', Ext w9 w' → Ext w9 w' ∧ w'.cell? ⟨w1.heap.size + 1, 0, none⟩ = some (.bool false) ∧ w'.cell? ⟨w1.heap.size + 1, 1, none⟩ = some (.slice Bk Mk dk) ∧ w'.cell? ⟨bktw, 0, none⟩ = some (.bool stw) ∧ w'.cell? ⟨bktw, 1, none⟩ = some (.slice Atw Ltw ctw)) := fun w' hk => ⟨hk, hk.cell kde_0, hk.cell kde_1, hk.cell ltw_0, hk.cell ltw_1⟩
      first
      | go_region_held3 (fun w' => Ext w9 w' ∧ w'.cell? ⟨w1.heap.size + 1, 0, none⟩ = some (.bool false) ∧ w'.cell? ⟨w1.heap.size + 1, 1, none⟩ = some (.slice Bk Mk dk) ∧ w'.cell? ⟨bktw, 0, none⟩ = some (.bool stw) ∧ w'.cell? ⟨bktw, 1, none⟩ = some (.slice Atw Ltw ctw))
          ((with_reducible refine HK.out _ ?_; (repeat' (first | with_reducible exact Ext.refl _ | with_reducible assumption | with_reducible apply Ext.alloc_r | with_reducible apply Ext.drew_r | with_reducible apply Ext.drewN_r | with_reducible apply Ext.set_r | with_reducible exact Nat.le_refl _ | omega | with_reducible refine Ext.trans ?_ ‹Ext _ _›))))
          (first
            | (go_at_call 62; have hgd := sh; clear hgd; refine (toQR HVV.out (floor_z (ad.zv.ext (by repeat' (first | with_reducible exact Ext.refl _ | with_reducible assumption | with_reducible apply Ext.alloc_r | with_reducible apply Ext.drew_r | with_reducible apply Ext.drewN_r | with_reducible refine Ext.trans ?_ ‹Ext _ _›))) (sh.zv.ext (by repeat' (first | with_reducible exact Ext.refl _ | with_reducible assumption | with_reducible apply Ext.alloc_r | with_reducible apply Ext.drew_r | with_reducible apply Ext.drewN_r | with_reducible refine Ext.trans ?_ ‹Ext _ _›))) u9 (by omega) (by omega))).mono ?_; rintro e w12 ⟨saj, Aaj, caj, Laj, sbj, Abj, cbj, Lbj, rfl, ja, jb, x12⟩; (have zs12 := x12.size); (try simp only [World.size_alloc] at zs12); (try ((with_reducible have h12_0 := box_ext (vs := #[.bool false, .slice none 0 0]) x12); have h12_0c0 := (h12_0.1 0 (.bool false) rfl).1; have h12_0f0 := (h12_0.1 0 (.bool false) rfl).2; have h12_0c1 := (h12_0.1 1 (.slice none 0 0) rfl).1; have h12_0f1 := (h12_0.1 1 (.slice none 0 0) rfl).2; have h12_0b := h12_0.2.1; have h12_0z := h12_0.2.2; (try simp only [World.size_alloc] at h12_0b h12_0z h12_0c0 h12_0f0 h12_0c1 h12_0f1); have h12_0m := Nat.ne_of_lt h12_0z; have h12_0n := Nat.ne_of_gt h12_0z; clear h12_0)); (try ((with_reducible have h12_1 := box_ext (vs := #[.bool false, .slice none 0 0]) ((Ext.alloc _ _).trans x12)); have h12_1c0 := (h12_1.1 0 (.bool false) rfl).1; have h12_1f0 := (h12_1.1 0 (.bool false) rfl).2; have h12_1c1 := (h12_1.1 1 (.slice none 0 0) rfl).1; have h12_1f1 := (h12_1.1 1 (.slice none 0 0) rfl).2; have h12_1b := h12_1.2.1; have h12_1z := h12_1.2.2; (try simp only [World.size_alloc] at h12_1b h12_1z h12_1c0 h12_1f0 h12_1c1 h12_1f1); have h12_1m := Nat.ne_of_lt h12_1z; have h12_1n := Nat.ne_of_gt h12_1z; clear h12_1)); (try (have hh : Ext w10 w12 := ?g1200; (case g1200 => ((repeat' (first | with_reducible exact Ext.refl _ | with_reducible assumption | with_reducible apply Ext.alloc_r | with_reducible apply Ext.drew_r | with_reducible apply Ext.drewN_r | with_reducible refine Ext.trans ?_ ‹Ext _ _›)); done)); replace h10_0f0 := hh.frozen h10_0c0 h10_0f0; replace h10_0c0 := hh.cell h10_0c0; replace h10_0f1 := hh.frozen h10_0c1 h10_0f1; replace h10_0c1 := hh.cell h10_0c1; replace h10_0b := h10_0b.ext hh; have h10_0z2 := Nat.lt_of_lt_of_le h10_0z hh.size; have h10_0m2 := Nat.ne_of_lt h10_0z2; have h10_0n2 := Nat.ne_of_gt h10_0z2; clear hh)); (try (have hh : Ext w10 w12 := ?g1201; (case g1201 => ((repeat' (first | with_reducible exact Ext.refl _ | with_reducible assumption | with_reducible apply Ext.alloc_r | with_reducible apply Ext.drew_r | with_reducible apply Ext.drewN_r | with_reducible refine Ext.trans ?_ ‹Ext _ _›)); done)); replace h10_1f0 := hh.frozen h10_1c0 h10_1f0; replace h10_1c0 := hh.cell h10_1c0; replace h10_1f1 := hh.frozen h10_1c1 h10_1f1; replace h10_1c1 := hh.cell h10_1c1; replace h10_1b := h10_1b.ext hh; have h10_1z2 := Nat.lt_of_lt_of_le h10_1z hh.size; have h10_1m2 := Nat.ne_of_lt h10_1z2; have h10_1n2 := Nat.ne_of_gt h10_1z2; clear hh)); (try (have hh : Ext w11 w12 := ?g1210; (case g1210 => ((repeat' (first | with_reducible exact Ext.refl _ | with_reducible assumption | with_reducible apply Ext.alloc_r | with_reducible apply Ext.drew_r | with_reducible apply Ext.drewN_r | with_reducible refine Ext.trans ?_ ‹Ext _ _›)); done)); replace h11_0f0 := hh.frozen h11_0c0 h11_0f0; replace h11_0c0 := hh.cell h11_0c0; replace h11_0f1 := hh.frozen h11_0c1 h11_0f1; replace h11_0c1 := hh.cell h11_0c1; replace h11_0b := h11_0b.ext hh; have h11_0z2 := Nat.lt_of_lt_of_le h11_0z hh.size; have h11_0m2 := Nat.ne_of_lt h11_0z2; have h11_0n2 := Nat.ne_of_gt h11_0z2; clear hh)); (try (have hh : Ext w11 w12 := ?g1211; (case g1211 => ((repeat' (first | with_reducible exact Ext.refl _ | with_reducible assumption | with_reducible apply Ext.alloc_r | with_reducible apply Ext.drew_r | with_reducible apply Ext.drewN_r | with_reducible refine Ext.trans ?_ ‹Ext _ _›)); done)); replace h11_1f0 := hh.frozen h11_1c0 h11_1f0; replace h11_1c0 := hh.cell h11_1c0; replace h11_1f1 := hh.frozen h11_1c1 h11_1f1; replace h11_1c1 := hh.cell h11_1c1; replace h11_1b := h11_1b.ext hh; have h11_1z2 := Nat.lt_of_lt_of_le h11_1z hh.size; have h11_1m2 := Nat.ne_of_lt h11_1z2; have h11_1n2 := Nat.ne_of_gt h11_1z2; clear hh)))
            | (go_at_call 59; have hgd := ad; clear hgd; refine (toZd HDW.out (zshl_z (m := 1) (HX.out.2.ext (by repeat' (first | with_reducible exact Ext.refl _ | with_reducible assumption | with_reducible apply Ext.alloc_r | with_reducible apply Ext.drew_r | with_reducible apply Ext.drewN_r | with_reducible refine Ext.trans ?_ ‹Ext _ _›))) (by omega) (by omega) rfl)).mono ?_; rintro e w11 ⟨ssh, Ash, csh, Lsh, rfl, sh, x11⟩; (have zs11 := x11.size); (try simp only [World.size_alloc] at zs11); (try ((with_reducible have h11_0 := box_ext (vs := #[.bool false, .slice none 0 0]) x11); have h11_0c0 := (h11_0.1 0 (.bool false) rfl).1; have h11_0f0 := (h11_0.1 0 (.bool false) rfl).2; have h11_0c1 := (h11_0.1 1 (.slice none 0 0) rfl).1; have h11_0f1 := (h11_0.1 1 (.slice none 0 0) rfl).2; have h11_0b := h11_0.2.1; have h11_0z := h11_0.2.2; (try simp only [World.size_alloc] at h11_0b h11_0z h11_0c0 h11_0f0 h11_0c1 h11_0f1); have h11_0m := Nat.ne_of_lt h11_0z; have h11_0n := Nat.ne_of_gt h11_0z; clear h11_0)); (try ((with_reducible have h11_1 := box_ext (vs := #[.bool false, .slice none 0 0]) ((Ext.alloc _ _).trans x11)); have h11_1c0 := (h11_1.1 0 (.bool false) rfl).1; have h11_1f0 := (h11_1.1 0 (.bool false) rfl).2; have h11_1c1 := (h11_1.1 1 (.slice none 0 0) rfl).1; have h11_1f1 := (h11_1.1 1 (.slice none 0 0) rfl).2; have h11_1b := h11_1.2.1; have h11_1z := h11_1.2.2; (try simp only [World.size_alloc] at h11_1b h11_1z h11_1c0 h11_1f0 h11_1c1 h11_1f1); have h11_1m := Nat.ne_of_lt h11_1z; have h11_1n := Nat.ne_of_gt h11_1z; clear h11_1)))
            | (go_at_call 63; refine (add_z (HTT.out.zv.ext (by repeat' (first | with_reducible exact Ext.refl _ | with_reducible assumption | with_reducible apply Ext.alloc_r | with_reducible apply Ext.drew_r | with_reducible apply Ext.drewN_r | with_reducible refine Ext.trans ?_ ‹Ext _ _›))) (HX.out.2.ext (by repeat' (first | with_reducible exact Ext.refl _ | with_reducible assumption | with_reducible apply Ext.alloc_r | with_reducible apply Ext.drew_r | with_reducible apply Ext.drewN_r | with_reducible refine Ext.trans ?_ ‹Ext _ _›))) (by omega) (by omega)).mono ?_; rintro e w10 ⟨sad, Aad, cad, Lad, rfl, ad, x10⟩; (have zs10 := x10.size); (try simp only [World.size_alloc, World.size_drew] at zs10); (try ((with_reducible have h10_0 := box_ext (vs := #[.bool false, .slice none 0 0]) ((Ext.drew _).trans x10)); have h10_0c0 := (h10_0.1 0 (.bool false) rfl).1; have h10_0f0 := (h10_0.1 0 (.bool false) rfl).2; have h10_0c1 := (h10_0.1 1 (.slice none 0 0) rfl).1; have h10_0f1 := (h10_0.1 1 (.slice none 0 0) rfl).2; have h10_0b := h10_0.2.1; have h10_0z := h10_0.2.2; (try simp only [World.size_alloc] at h10_0b h10_0z h10_0c0 h10_0f0 h10_0c1 h10_0f1); have h10_0m := Nat.ne_of_lt h10_0z; have h10_0n := Nat.ne_of_gt h10_0z; clear h10_0)); (try ((with_reducible have h10_1 := box_ext (vs := #[.bool false, .slice none 0 0]) (((Ext.alloc _ _).trans (Ext.drew _)).trans x10)); have h10_1c0 := (h10_1.1 0 (.bool false) rfl).1; have h10_1f0 := (h10_1.1 0 (.bool false) rfl).2; have h10_1c1 := (h10_1.1 1 (.slice none 0 0) rfl).1; have h10_1f1 := (h10_1.1 1 (.slice none 0 0) rfl).2; have h10_1b := h10_1.2.1; have h10_1z := h10_1.2.2; (try simp only [World.size_alloc] at h10_1b h10_1z h10_1c0 h10_1f0 h10_1c1 h10_1f1); have h10_1m := Nat.ne_of_lt h10_1z; have h10_1n := Nat.ne_of_gt h10_1z; clear h10_1))))
      | fail
      all_goals (clear HK; go_wp2_with fail; go_meet)
      all_goals
        constructor
        · refine PutN.mk (sb := saj) (A := Aaj) (c := caj) (L := Laj) ?_ ?_ ?_ ?_ ?_ ?_ ((ja.mono (Ext.size (by repeat' (first | with_reducible exact Ext.refl _ | with_reducible assumption | with_reducible apply Ext.alloc_r | with_reducible apply Ext.drew_r | with_reducible apply Ext.drewN_r | with_reducible refine Ext.trans ?_ ‹Ext _ _›)))).kept ?_) ?_
          · (first | exact Nat.le_refl _ | omega | (simp only [World.size_alloc, World.size_drew]; omega) | (simp; omega))
          · (repeat' (first | with_reducible assumption | with_reducible apply IsBox.set_ | (with_reducible apply IsBox.new; (first | (with_reducible rfl) | simp); done) | with_reducible apply IsBox.alloc_ | with_reducible apply IsBox.drew_ | with_reducible refine IsBox.ext ?_ ‹Ext _ _›))
          · go_simp
          · go_simp
          · go_simp
          · go_simp
          · (repeat' (first | with_reducible exact Kept.refl _ | with_reducible apply Kept.alloc_r | with_reducible apply Kept.drew_r | (with_reducible apply Kept.setZ; (case hb => ((repeat' (first | with_reducible assumption | with_reducible apply IsBox.set_ | (with_reducible apply IsBox.new; (first | (with_reducible rfl) | simp); done) | with_reducible apply IsBox.alloc_ | with_reducible apply IsBox.drew_ | with_reducible refine IsBox.ext ?_ ‹Ext _ _›)); done))) | (with_reducible apply Kept.setI; (case hb => ((repeat' (first | with_reducible assumption | with_reducible apply IsBox.set_ | (with_reducible apply IsBox.new; (first | (with_reducible rfl) | simp); done) | with_reducible apply IsBox.alloc_ | with_reducible apply IsBox.drew_ | with_reducible refine IsBox.ext ?_ ‹Ext _ _›)); done))) | with_reducible refine Kept.trans ?_ (Ext.kept ‹Ext _ _›)))
          · (repeat' (first | with_reducible exact Ext.refl _ | with_reducible assumption | with_reducible apply Ext.alloc_r | with_reducible apply Ext.drew_r | with_reducible apply Ext.drewN_r | with_reducible apply Ext.set_r | with_reducible exact Nat.le_refl _ | omega | with_reducible refine Ext.trans ?_ ‹Ext _ _›))
        · refine PutN.mk (sb := sbj) (A := Abj) (c := cbj) (L := Lbj) ?_ ?_ ?_ ?_ ?_ ?_ ((jb.mono (Ext.size (by repeat' (first | with_reducible exact Ext.refl _ | with_reducible assumption | with_reducible apply Ext.alloc_r | with_reducible apply Ext.drew_r | with_reducible apply Ext.drewN_r | with_reducible refine Ext.trans ?_ ‹Ext _ _›)))).kept ?_) ?_
          · (first | exact Nat.le_refl _ | omega | (simp only [World.size_alloc, World.size_drew]; omega) | (simp; omega))
          · (repeat' (first | with_reducible assumption | with_reducible apply IsBox.set_ | (with_reducible apply IsBox.new; (first | (with_reducible rfl) | simp); done) | with_reducible apply IsBox.alloc_ | with_reducible apply IsBox.drew_ | with_reducible refine IsBox.ext ?_ ‹Ext _ _›))
          · go_simp
          · go_simp
          · go_simp
          · go_simp
          · (repeat' (first | with_reducible exact Kept.refl _ | with_reducible apply Kept.alloc_r | with_reducible apply Kept.drew_r | (with_reducible apply Kept.setZ; (case hb => ((repeat' (first | with_reducible assumption | with_reducible apply IsBox.set_ | (with_reducible apply IsBox.new; (first | (with_reducible rfl) | simp); done) | with_reducible apply IsBox.alloc_ | with_reducible apply IsBox.drew_ | with_reducible refine IsBox.ext ?_ ‹Ext _ _›)); done))) | (with_reducible apply Kept.setI; (case hb => ((repeat' (first | with_reducible assumption | with_reducible apply IsBox.set_ | (with_reducible apply IsBox.new; (first | (with_reducible rfl) | simp); done) | with_reducible apply IsBox.alloc_ | with_reducible apply IsBox.drew_ | with_reducible refine IsBox.ext ?_ ‹Ext _ _›)); done))) | with_reducible refine Kept.trans ?_ (Ext.kept ‹Ext _ _›)))
          · (repeat' (first | with_reducible exact Ext.refl _ | with_reducible assumption | with_reducible apply Ext.alloc_r | with_reducible apply Ext.drew_r | with_reducible apply Ext.drewN_r | with_reducible apply Ext.set_r | with_reducible exact Nat.le_refl _ | omega | with_reducible refine Ext.trans ?_ ‹Ext _ _›))
    case rest =>
      obtain ⟨hszw0, szw1, szw2, szw3, szw4, szw5, szw9⟩ := HSZ.out.2
      clear kde_0 kde_1
      obtain ⟨hc_0, hc_1⟩ := hcut
      obtain ⟨bkva, sva, Ava, cva, Lva, rfl, hbva, hwva, va, xxva⟩ := hc_0
      obtain ⟨bkre, sre, Are, cre, Lre, rfl, hbre, hwre, re, xxre⟩ := hc_1
      have x13 := xxva
      clear xxva
      clear xxre
      obtain ⟨w13, rfl⟩ : ∃ z : World, z = wc := ⟨_, rfl⟩
      have szw13 : w9.heap.size ≤ w13.heap.size := x13.size
      replace bxa := bxa.ext x13
      replace bxnu := bxnu.ext x13
      replace bxde := bxde.ext x13
      replace bxsc := bxsc.ext x13
      replace ltw_0 := x13.cell ltw_0
      replace ltw_1 := x13.cell ltw_1
      have lva_0 := hwva.c0
      have lva_1 := hwva.c1
      clear hwva
      have lre_0 := hwre.c0
      have lre_1 := hwre.c1
      clear hwre
      have HVA := Lib.hid va
      clear va re
      go_wp2_with fail
      refine (Format_z (HVA.out.zv.ext (by repeat' (first | with_reducible exact Ext.refl _ | with_reducible assumption | with_reducible apply Ext.alloc_r | with_reducible apply Ext.drew_r | with_reducible apply Ext.drewN_r | with_reducible refine Ext.trans ?_ ‹Ext _ _›))) (by omega)).mono ?_
      rintro e w14 ⟨tf, rfl, f, x14⟩
      have szw14 : w13.heap.size ≤ w14.heap.size := x14.size
      replace bxa := bxa.ext x14
      replace bxnu := bxnu.ext x14
      replace bxde := bxde.ext x14
      replace bxsc := bxsc.ext x14
      replace ltw_0 := x14.cell ltw_0
      replace ltw_1 := x14.cell ltw_1
      replace lva_0 := x14.cell lva_0
      replace lva_1 := x14.cell lva_1
      replace lre_0 := x14.cell lre_0
      replace lre_1 := x14.cell lre_1
      have flen := fmt_len40 (show dl V.natAbs ≤ 60 by omega)
      have hfs : (fmtL 10 V).length = tf.size := by rw [← bs_length, f]
      rw [hfs] at flen
      have HF := Lib.hid f
      have HFS := Lib.hid hfs
      clear f hfs
      obtain ⟨S, hS⟩ : ∃ S : Int, xk.sign = S := ⟨_, rfl⟩
      have hSb := sign_bd xk
      rw [hS] at hSb
      have HSS := Lib.hid hS
      clear hS
      by_cases hm : tf.size ≤ p
      · obtain ⟨m, hmm⟩ : ∃ m : Nat, (p : Int) + 1 - (tf.size : Int) = (m : Int) := ⟨p + 1 - tf.size, by omega⟩
        have hm0 : (0 : Int) < (m : Int) := by omega
        have hm1 : m ≤ 1000 := by omega
        have hmn : p + 1 - tf.size = m := by omega
        have HMN := Lib.hid hmn
        clear hmn
        go_wp2_with fail
        refine (repeat0 (c := m) hm1).mono ?_
        rintro e w15 ⟨tr, rfl, r, x15⟩
        have szw15 : w14.heap.size ≤ w15.heap.size := x15.size
        replace bxa := bxa.ext x15
        replace bxnu := bxnu.ext x15
        replace bxde := bxde.ext x15
        replace bxsc := bxsc.ext x15
        replace ltw_0 := x15.cell ltw_0
        replace ltw_1 := x15.cell ltw_1
        replace lva_0 := x15.cell lva_0
        replace lva_1 := x15.cell lva_1
        replace lre_0 := x15.cell lre_0
        replace lre_1 := x15.cell lre_1
        have hrs : tr.size = m := by rw [← bs_length, r, List.length_replicate]
        have hz3 : ¬ 9223372036854775807 < tr.size + tf.size := by omega
        go_upto_region 11 with fail
        obtain ⟨t1, ht1⟩ : ∃ z, z = tr ++ tf := ⟨_, rfl⟩
        rw [← ht1]
        have HP1 : Hid (bs t1 = padT (fmtL 10 V) p) := by
          show _ = _
          rw [ht1, bs_append, r, HF.out]
          unfold padT
          rw [HFS.out, HMN.out]
        have hts : p + 1 ≤ t1.size := by rw [ht1, ByteArray.size_append]; omega
        have ht1s : t1.size ≤ 3000 := by rw [ht1, ByteArray.size_append]; omega
        clear ht1 hrs hz3 r hm0 hmm
        by_cases hp0 : 0 < p
        · obtain ⟨pt, hpt⟩ : ∃ pt : Nat, (t1.size : Int) - (p : Int) = (pt : Int) := ⟨t1.size - p, by omega⟩
          have hpn : t1.size - p = pt := by omega
          have hq1 : (pt : Int) ≤ (t1.size : Int) := by omega
          have HFP : Hid (pointT (padT (fmtL 10 V) p) p = (padT (fmtL 10 V) p).take pt ++ 46 :: (padT (fmtL 10 V) p).drop pt) := by
            show _ = _
            unfold pointT
            rw [if_pos hp0, ← HP1.out, bs_length, hpn]
          have hpi : (0 : Int) < (p : Int) := by omega
          clear hpn
          go_wp2_with fail
          go_quiet (fail)
          rename_i nq
          obtain ⟨wq, hw⟩ : ∃ z : World, z = World.drewN w15 nq := ⟨_, rfl⟩
          rw [← hw]
          have xq : Ext w15 wq := by rw [hw]; exact Qt.ext ⟨_, rfl⟩
          clear hw
          replace bxa := bxa.ext xq
          replace bxnu := bxnu.ext xq
          replace bxde := bxde.ext xq
          replace bxsc := bxsc.ext xq
          replace ltw_0 := xq.cell ltw_0
          replace ltw_1 := xq.cell ltw_1
          replace lva_0 := xq.cell lva_0
          replace lva_1 := xq.cell lva_1
          replace lre_0 := xq.cell lre_0
          replace lre_1 := xq.cell lre_1
          obtain ⟨t2, ht2⟩ : ∃ z, z = t1.extract 0 pt ++ { data := #[46] } ++ t1.extract pt t1.size := ⟨_, rfl⟩
          rw [← ht2]
          have HT2 : Hid (bs t2 = pointT (padT (fmtL 10 V) p) p) := by
            show _ = _
            rw [ht2, HFP.out, bs_append, bs_append, bs_take, bs_drop, HP1.out, List.append_assoc]
            rfl
          have ht2s : t2.size ≤ 5000 := by
            rw [ht2, ByteArray.size_append, ByteArray.size_append, ByteArray.size_extract, ByteArray.size_extract]
            have h5 : (ByteArray.mk #[46]).size = 1 := rfl
            omega
          clear ht2 HFP
          by_cases hsg : S < 0
          · by_cases hv0 : V = 0
            · have HC : Hid (¬ (q1.num < 0 ∧ decV q1 p ≠ 0)) := fun h => h.2 (by rw [← HVD.out]; exact hv0)
              have HS0 : Hid (V.sign = 0) := by show _ = _; rw [hv0]; rfl
              clear hv0
              have knu_0 := bxnu.c 0 (.bool sk) rfl
              have knu_1 := bxnu.c 1 (.slice Ak Lk ck) rfl
              go_wp2_with fail
              clear knu_0 knu_1
              refine (sign_is (HX.out.1.ext (by repeat' (first | with_reducible exact Ext.refl _ | with_reducible assumption | with_reducible apply Ext.alloc_r | with_reducible apply Ext.drew_r | with_reducible apply Ext.drewN_r | with_reducible refine Ext.trans ?_ ‹Ext _ _›))) HSS.out).mono ?_
              rintro e w16 ⟨rfl, x16⟩
              have szw16 : wq.heap.size ≤ w16.heap.size := x16.size
              replace bxa := bxa.ext x16
              replace bxnu := bxnu.ext x16
              replace bxde := bxde.ext x16
              replace bxsc := bxsc.ext x16
              replace ltw_0 := x16.cell ltw_0
              replace ltw_1 := x16.cell ltw_1
              replace lva_0 := x16.cell lva_0
              replace lva_1 := x16.cell lva_1
              replace lre_0 := x16.cell lre_0
              replace lre_1 := x16.cell lre_1
              have knu_0 := bxnu.c 0 (.bool sk) rfl
              have knu_1 := bxnu.c 1 (.slice Ak Lk ck) rfl
              go_wp2_with fail
              clear knu_0 knu_1
              refine (sign_is (HVA.out.zv.ext (by repeat' (first | with_reducible exact Ext.refl _ | with_reducible assumption | with_reducible apply Ext.alloc_r | with_reducible apply Ext.drew_r | with_reducible apply Ext.drewN_r | with_reducible refine Ext.trans ?_ ‹Ext _ _›))) HS0.out).mono ?_
              rintro e w17 ⟨rfl, x17⟩
              have szw17 : w16.heap.size ≤ w17.heap.size := x17.size
              replace bxa := bxa.ext x17
              replace bxnu := bxnu.ext x17
              replace bxde := bxde.ext x17
              replace bxsc := bxsc.ext x17
              replace ltw_0 := x17.cell ltw_0
              replace ltw_1 := x17.cell ltw_1
              replace lva_0 := x17.cell lva_0
              replace lva_1 := x17.cell lva_1
              replace lre_0 := x17.cell lre_0
              replace lre_1 := x17.cell lre_1
              have xz : Ext w w17 := (by repeat' (first | with_reducible exact Ext.refl _ | with_reducible assumption | with_reducible apply Ext.alloc_r | with_reducible apply Ext.drew_r | with_reducible apply Ext.drewN_r | with_reducible refine Ext.trans ?_ ‹Ext _ _›))
              have knu_0 := bxnu.c 0 (.bool sk) rfl
              have knu_1 := bxnu.c 1 (.slice Ak Lk ck) rfl
              go_wp2_with fail
              clear knu_0 knu_1
              go_ret2
              refine ⟨_, rfl, ?_, xz⟩
              unfold decT
              rw [if_neg HC.out, List.nil_append, HT2.out, HVD.out]
            · have HC : Hid (q1.num < 0 ∧ decV q1 p ≠ 0) := ⟨by rw [← Int.sign_eq_neg_one_iff_neg, ← HSG.out, HSS.out]; omega, by rw [← HVD.out]; exact hv0⟩
              have HS0 : Hid (V.sign = 1) := Int.sign_eq_one_of_pos (by have h5 := HVN.out; rw [← HVD.out] at h5; omega)
              have hz1 : ¬ 9223372036854775807 < 1 + t2.size := by omega
              clear hv0
              have knu_0 := bxnu.c 0 (.bool sk) rfl
              have knu_1 := bxnu.c 1 (.slice Ak Lk ck) rfl
              go_wp2_with fail
              clear knu_0 knu_1
              refine (sign_is (HX.out.1.ext (by repeat' (first | with_reducible exact Ext.refl _ | with_reducible assumption | with_reducible apply Ext.alloc_r | with_reducible apply Ext.drew_r | with_reducible apply Ext.drewN_r | with_reducible refine Ext.trans ?_ ‹Ext _ _›))) HSS.out).mono ?_
              rintro e w16 ⟨rfl, x16⟩
              have szw16 : wq.heap.size ≤ w16.heap.size := x16.size
              replace bxa := bxa.ext x16
              replace bxnu := bxnu.ext x16
              replace bxde := bxde.ext x16
              replace bxsc := bxsc.ext x16
              replace ltw_0 := x16.cell ltw_0
              replace ltw_1 := x16.cell ltw_1
              replace lva_0 := x16.cell lva_0
              replace lva_1 := x16.cell lva_1
              replace lre_0 := x16.cell lre_0
              replace lre_1 := x16.cell lre_1
              have knu_0 := bxnu.c 0 (.bool sk) rfl
              have knu_1 := bxnu.c 1 (.slice Ak Lk ck) rfl
              go_wp2_with fail
              clear knu_0 knu_1
              refine (sign_is (HVA.out.zv.ext (by repeat' (first | with_reducible exact Ext.refl _ | with_reducible assumption | with_reducible apply Ext.alloc_r | with_reducible apply Ext.drew_r | with_reducible apply Ext.drewN_r | with_reducible refine Ext.trans ?_ ‹Ext _ _›))) HS0.out).mono ?_
              rintro e w17 ⟨rfl, x17⟩
              have szw17 : w16.heap.size ≤ w17.heap.size := x17.size
              replace bxa := bxa.ext x17
              replace bxnu := bxnu.ext x17
              replace bxde := bxde.ext x17
              replace bxsc := bxsc.ext x17
              replace ltw_0 := x17.cell ltw_0
              replace ltw_1 := x17.cell ltw_1
              replace lva_0 := x17.cell lva_0
              replace lva_1 := x17.cell lva_1
              replace lre_0 := x17.cell lre_0
              replace lre_1 := x17.cell lre_1
              have xz : Ext w w17 := (by repeat' (first | with_reducible exact Ext.refl _ | with_reducible assumption | with_reducible apply Ext.alloc_r | with_reducible apply Ext.drew_r | with_reducible apply Ext.drewN_r | with_reducible refine Ext.trans ?_ ‹Ext _ _›))
              have knu_0 := bxnu.c 0 (.bool sk) rfl
              have knu_1 := bxnu.c 1 (.slice Ak Lk ck) rfl
              go_wp2_with fail
              clear knu_0 knu_1
              go_ret2
              refine ⟨_, rfl, ?_, xz⟩
              unfold decT
              rw [if_pos HC.out, bs_append, HT2.out, HVD.out]
              rfl
          · have HC : Hid (¬ (q1.num < 0 ∧ decV q1 p ≠ 0)) := fun h => hsg (by have h5 := Int.sign_eq_neg_one_of_neg h.1; rw [← HSG.out, HSS.out] at h5; omega)
            have knu_0 := bxnu.c 0 (.bool sk) rfl
            have knu_1 := bxnu.c 1 (.slice Ak Lk ck) rfl
            go_wp2_with fail
            clear knu_0 knu_1
            refine (sign_is (HX.out.1.ext (by repeat' (first | with_reducible exact Ext.refl _ | with_reducible assumption | with_reducible apply Ext.alloc_r | with_reducible apply Ext.drew_r | with_reducible apply Ext.drewN_r | with_reducible refine Ext.trans ?_ ‹Ext _ _›))) HSS.out).mono ?_
            rintro e w16 ⟨rfl, x16⟩
            have szw16 : wq.heap.size ≤ w16.heap.size := x16.size
            replace bxa := bxa.ext x16
            replace bxnu := bxnu.ext x16
            replace bxde := bxde.ext x16
            replace bxsc := bxsc.ext x16
            replace ltw_0 := x16.cell ltw_0
            replace ltw_1 := x16.cell ltw_1
            replace lva_0 := x16.cell lva_0
            replace lva_1 := x16.cell lva_1
            replace lre_0 := x16.cell lre_0
            replace lre_1 := x16.cell lre_1
            have xz : Ext w w16 := (by repeat' (first | with_reducible exact Ext.refl _ | with_reducible assumption | with_reducible apply Ext.alloc_r | with_reducible apply Ext.drew_r | with_reducible apply Ext.drewN_r | with_reducible refine Ext.trans ?_ ‹Ext _ _›))
            have knu_0 := bxnu.c 0 (.bool sk) rfl
            have knu_1 := bxnu.c 1 (.slice Ak Lk ck) rfl
            go_wp2_with fail
            clear knu_0 knu_1
            go_ret2
            refine ⟨_, rfl, ?_, xz⟩
            unfold decT
            rw [if_neg HC.out, List.nil_append, HT2.out, HVD.out]
        · have HT2 : Hid (bs t1 = pointT (padT (fmtL 10 V) p) p) := by
            show _ = _
            unfold pointT
            rw [if_neg hp0]
            exact HP1.out
          by_cases hsg : S < 0
          · by_cases hv0 : V = 0
            · have HC : Hid (¬ (q1.num < 0 ∧ decV q1 p ≠ 0)) := fun h => h.2 (by rw [← HVD.out]; exact hv0)
              have HS0 : Hid (V.sign = 0) := by show _ = _; rw [hv0]; rfl
              clear hv0
              have knu_0 := bxnu.c 0 (.bool sk) rfl
              have knu_1 := bxnu.c 1 (.slice Ak Lk ck) rfl
              go_wp2_with fail
              clear knu_0 knu_1
              refine (sign_is (HX.out.1.ext (by repeat' (first | with_reducible exact Ext.refl _ | with_reducible assumption | with_reducible apply Ext.alloc_r | with_reducible apply Ext.drew_r | with_reducible apply Ext.drewN_r | with_reducible refine Ext.trans ?_ ‹Ext _ _›))) HSS.out).mono ?_
              rintro e w16 ⟨rfl, x16⟩
              have szw16 : w15.heap.size ≤ w16.heap.size := x16.size
              replace bxa := bxa.ext x16
              replace bxnu := bxnu.ext x16
              replace bxde := bxde.ext x16
              replace bxsc := bxsc.ext x16
              replace ltw_0 := x16.cell ltw_0
              replace ltw_1 := x16.cell ltw_1
              replace lva_0 := x16.cell lva_0
              replace lva_1 := x16.cell lva_1
              replace lre_0 := x16.cell lre_0
              replace lre_1 := x16.cell lre_1
              have knu_0 := bxnu.c 0 (.bool sk) rfl
              have knu_1 := bxnu.c 1 (.slice Ak Lk ck) rfl
              go_wp2_with fail
              clear knu_0 knu_1
              refine (sign_is (HVA.out.zv.ext (by repeat' (first | with_reducible exact Ext.refl _ | with_reducible assumption | with_reducible apply Ext.alloc_r | with_reducible apply Ext.drew_r | with_reducible apply Ext.drewN_r | with_reducible refine Ext.trans ?_ ‹Ext _ _›))) HS0.out).mono ?_
              rintro e w17 ⟨rfl, x17⟩
              have szw17 : w16.heap.size ≤ w17.heap.size := x17.size
              replace bxa := bxa.ext x17
              replace bxnu := bxnu.ext x17
              replace bxde := bxde.ext x17
              replace bxsc := bxsc.ext x17
              replace ltw_0 := x17.cell ltw_0
              replace ltw_1 := x17.cell ltw_1
              replace lva_0 := x17.cell lva_0
              replace lva_1 := x17.cell lva_1
              replace lre_0 := x17.cell lre_0
              replace lre_1 := x17.cell lre_1
              have xz : Ext w w17 := (by repeat' (first | with_reducible exact Ext.refl _ | with_reducible assumption | with_reducible apply Ext.alloc_r | with_reducible apply Ext.drew_r | with_reducible apply Ext.drewN_r | with_reducible refine Ext.trans ?_ ‹Ext _ _›))
              have knu_0 := bxnu.c 0 (.bool sk) rfl
              have knu_1 := bxnu.c 1 (.slice Ak Lk ck) rfl
              go_wp2_with fail
              clear knu_0 knu_1
              go_ret2
              refine ⟨_, rfl, ?_, xz⟩
              unfold decT
              rw [if_neg HC.out, List.nil_append, HT2.out, HVD.out]
            · have HC : Hid (q1.num < 0 ∧ decV q1 p ≠ 0) := ⟨by rw [← Int.sign_eq_neg_one_iff_neg, ← HSG.out, HSS.out]; omega, by rw [← HVD.out]; exact hv0⟩
              have HS0 : Hid (V.sign = 1) := Int.sign_eq_one_of_pos (by have h5 := HVN.out; rw [← HVD.out] at h5; omega)
              have hz1 : ¬ 9223372036854775807 < 1 + t1.size := by omega
              clear hv0
              have knu_0 := bxnu.c 0 (.bool sk) rfl
              have knu_1 := bxnu.c 1 (.slice Ak Lk ck) rfl
              go_wp2_with fail
              clear knu_0 knu_1
              refine (sign_is (HX.out.1.ext (by repeat' (first | with_reducible exact Ext.refl _ | with_reducible assumption | with_reducible apply Ext.alloc_r | with_reducible apply Ext.drew_r | with_reducible apply Ext.drewN_r | with_reducible refine Ext.trans ?_ ‹Ext _ _›))) HSS.out).mono ?_
              rintro e w16 ⟨rfl, x16⟩
              have szw16 : w15.heap.size ≤ w16.heap.size := x16.size
              replace bxa := bxa.ext x16
              replace bxnu := bxnu.ext x16
              replace bxde := bxde.ext x16
              replace bxsc := bxsc.ext x16
              replace ltw_0 := x16.cell ltw_0
              replace ltw_1 := x16.cell ltw_1
              replace lva_0 := x16.cell lva_0
              replace lva_1 := x16.cell lva_1
              replace lre_0 := x16.cell lre_0
              replace lre_1 := x16.cell lre_1
              have knu_0 := bxnu.c 0 (.bool sk) rfl
              have knu_1 := bxnu.c 1 (.slice Ak Lk ck) rfl
              go_wp2_with fail
              clear knu_0 knu_1
              refine (sign_is (HVA.out.zv.ext (by repeat' (first | with_reducible exact Ext.refl _ | with_reducible assumption | with_reducible apply Ext.alloc_r | with_reducible apply Ext.drew_r | with_reducible apply Ext.drewN_r | with_reducible refine Ext.trans ?_ ‹Ext _ _›))) HS0.out).mono ?_
              rintro e w17 ⟨rfl, x17⟩
              have szw17 : w16.heap.size ≤ w17.heap.size := x17.size
              replace bxa := bxa.ext x17
              replace bxnu := bxnu.ext x17
              replace bxde := bxde.ext x17
              replace bxsc := bxsc.ext x17
              replace ltw_0 := x17.cell ltw_0
              replace ltw_1 := x17.cell ltw_1
              replace lva_0 := x17.cell lva_0
              replace lva_1 := x17.cell lva_1
              replace lre_0 := x17.cell lre_0
              replace lre_1 := x17.cell lre_1
              have xz : Ext w w17 := (by repeat' (first | with_reducible exact Ext.refl _ | with_reducible assumption | with_reducible apply Ext.alloc_r | with_reducible apply Ext.drew_r | with_reducible apply Ext.drewN_r | with_reducible refine Ext.trans ?_ ‹Ext _ _›))
              have knu_0 := bxnu.c 0 (.bool sk) rfl
              have knu_1 := bxnu.c 1 (.slice Ak Lk ck) rfl
              go_wp2_with fail
              clear knu_0 knu_1
              go_ret2
              refine ⟨_, rfl, ?_, xz⟩
              unfold decT
              rw [if_pos HC.out, bs_append, HT2.out, HVD.out]
              rfl
          · have HC : Hid (¬ (q1.num < 0 ∧ decV q1 p ≠ 0)) := fun h => hsg (by have h5 := Int.sign_eq_neg_one_of_neg h.1; rw [← HSG.out, HSS.out] at h5; omega)
            have knu_0 := bxnu.c 0 (.bool sk) rfl
            have knu_1 := bxnu.c 1 (.slice Ak Lk ck) rfl
            go_wp2_with fail
            clear knu_0 knu_1
            refine (sign_is (HX.out.1.ext (by repeat' (first | with_reducible exact Ext.refl _ | with_reducible assumption | with_reducible apply Ext.alloc_r | with_reducible apply Ext.drew_r | with_reducible apply Ext.drewN_r | with_reducible refine Ext.trans ?_ ‹Ext _ _›))) HSS.out).mono ?_
            rintro e w16 ⟨rfl, x16⟩
            have szw16 : w15.heap.size ≤ w16.heap.size := x16.size
            replace bxa := bxa.ext x16
            replace bxnu := bxnu.ext x16
            replace bxde := bxde.ext x16
            replace bxsc := bxsc.ext x16
            replace ltw_0 := x16.cell ltw_0
            replace ltw_1 := x16.cell ltw_1
            replace lva_0 := x16.cell lva_0
            replace lva_1 := x16.cell lva_1
            replace lre_0 := x16.cell lre_0
            replace lre_1 := x16.cell lre_1
            have xz : Ext w w16 := (by repeat' (first | with_reducible exact Ext.refl _ | with_reducible assumption | with_reducible apply Ext.alloc_r | with_reducible apply Ext.drew_r | with_reducible apply Ext.drewN_r | with_reducible refine Ext.trans ?_ ‹Ext _ _›))
            have knu_0 := bxnu.c 0 (.bool sk) rfl
            have knu_1 := bxnu.c 1 (.slice Ak Lk ck) rfl
            go_wp2_with fail
            clear knu_0 knu_1
            go_ret2
            refine ⟨_, rfl, ?_, xz⟩
            unfold decT
            rw [if_neg HC.out, List.nil_append, HT2.out, HVD.out]
      · have HP1 : Hid (bs tf = padT (fmtL 10 V) p) := by show _ = _; rw [padT_no (by rw [HFS.out]; omega)]; exact HF.out
        have hm9 : ¬ (0 : Int) < (p : Int) + 1 - (tf.size : Int) := by omega
        have hts : p + 1 ≤ tf.size := by omega
        by_cases hp0 : 0 < p
        · obtain ⟨pt, hpt⟩ : ∃ pt : Nat, (tf.size : Int) - (p : Int) = (pt : Int) := ⟨tf.size - p, by omega⟩
          have hpn : tf.size - p = pt := by omega
          have hq1 : (pt : Int) ≤ (tf.size : Int) := by omega
          have HFP : Hid (pointT (padT (fmtL 10 V) p) p = (padT (fmtL 10 V) p).take pt ++ 46 :: (padT (fmtL 10 V) p).drop pt) := by
            show _ = _
            unfold pointT
            rw [if_pos hp0, ← HP1.out, bs_length, hpn]
          have hpi : (0 : Int) < (p : Int) := by omega
          clear hpn
          go_wp2_with fail
          go_quiet (fail)
          rename_i nq
          obtain ⟨wq, hw⟩ : ∃ z : World, z = World.drewN w14 nq := ⟨_, rfl⟩
          rw [← hw]
          have xq : Ext w14 wq := by rw [hw]; exact Qt.ext ⟨_, rfl⟩
          clear hw
          replace bxa := bxa.ext xq
          replace bxnu := bxnu.ext xq
          replace bxde := bxde.ext xq
          replace bxsc := bxsc.ext xq
          replace ltw_0 := xq.cell ltw_0
          replace ltw_1 := xq.cell ltw_1
          replace lva_0 := xq.cell lva_0
          replace lva_1 := xq.cell lva_1
          replace lre_0 := xq.cell lre_0
          replace lre_1 := xq.cell lre_1
          obtain ⟨t2, ht2⟩ : ∃ z, z = tf.extract 0 pt ++ { data := #[46] } ++ tf.extract pt tf.size := ⟨_, rfl⟩
          rw [← ht2]
          have HT2 : Hid (bs t2 = pointT (padT (fmtL 10 V) p) p) := by
            show _ = _
            rw [ht2, HFP.out, bs_append, bs_append, bs_take, bs_drop, HP1.out, List.append_assoc]
            rfl
          have ht2s : t2.size ≤ 5000 := by
            rw [ht2, ByteArray.size_append, ByteArray.size_append, ByteArray.size_extract, ByteArray.size_extract]
            have h5 : (ByteArray.mk #[46]).size = 1 := rfl
            omega
          clear ht2 HFP
          by_cases hsg : S < 0
          · by_cases hv0 : V = 0
            · have HC : Hid (¬ (q1.num < 0 ∧ decV q1 p ≠ 0)) := fun h => h.2 (by rw [← HVD.out]; exact hv0)
              have HS0 : Hid (V.sign = 0) := by show _ = _; rw [hv0]; rfl
              clear hv0
              have knu_0 := bxnu.c 0 (.bool sk) rfl
              have knu_1 := bxnu.c 1 (.slice Ak Lk ck) rfl
              go_wp2_with fail
              clear knu_0 knu_1
              refine (sign_is (HX.out.1.ext (by repeat' (first | with_reducible exact Ext.refl _ | with_reducible assumption | with_reducible apply Ext.alloc_r | with_reducible apply Ext.drew_r | with_reducible apply Ext.drewN_r | with_reducible refine Ext.trans ?_ ‹Ext _ _›))) HSS.out).mono ?_
              rintro e w15 ⟨rfl, x15⟩
              have szw15 : wq.heap.size ≤ w15.heap.size := x15.size
              replace bxa := bxa.ext x15
              replace bxnu := bxnu.ext x15
              replace bxde := bxde.ext x15
              replace bxsc := bxsc.ext x15
              replace ltw_0 := x15.cell ltw_0
              replace ltw_1 := x15.cell ltw_1
              replace lva_0 := x15.cell lva_0
              replace lva_1 := x15.cell lva_1
              replace lre_0 := x15.cell lre_0
              replace lre_1 := x15.cell lre_1
              have knu_0 := bxnu.c 0 (.bool sk) rfl
              have knu_1 := bxnu.c 1 (.slice Ak Lk ck) rfl
              go_wp2_with fail
              clear knu_0 knu_1
              refine (sign_is (HVA.out.zv.ext (by repeat' (first | with_reducible exact Ext.refl _ | with_reducible assumption | with_reducible apply Ext.alloc_r | with_reducible apply Ext.drew_r | with_reducible apply Ext.drewN_r | with_reducible refine Ext.trans ?_ ‹Ext _ _›))) HS0.out).mono ?_
              rintro e w16 ⟨rfl, x16⟩
              have szw16 : w15.heap.size ≤ w16.heap.size := x16.size
              replace bxa := bxa.ext x16
              replace bxnu := bxnu.ext x16
              replace bxde := bxde.ext x16
              replace bxsc := bxsc.ext x16
              replace ltw_0 := x16.cell ltw_0
              replace ltw_1 := x16.cell ltw_1
              replace lva_0 := x16.cell lva_0
              replace lva_1 := x16.cell lva_1
              replace lre_0 := x16.cell lre_0
              replace lre_1 := x16.cell lre_1
              have xz : Ext w w16 := (by repeat' (first | with_reducible exact Ext.refl _ | with_reducible assumption | with_reducible apply Ext.alloc_r | with_reducible apply Ext.drew_r | with_reducible apply Ext.drewN_r | with_reducible refine Ext.trans ?_ ‹Ext _ _›))
              have knu_0 := bxnu.c 0 (.bool sk) rfl
              have knu_1 := bxnu.c 1 (.slice Ak Lk ck) rfl
              go_wp2_with fail
              clear knu_0 knu_1
              go_ret2
              refine ⟨_, rfl, ?_, xz⟩
              unfold decT
              rw [if_neg HC.out, List.nil_append, HT2.out, HVD.out]
            · have HC : Hid (q1.num < 0 ∧ decV q1 p ≠ 0) := ⟨by rw [← Int.sign_eq_neg_one_iff_neg, ← HSG.out, HSS.out]; omega, by rw [← HVD.out]; exact hv0⟩
              have HS0 : Hid (V.sign = 1) := Int.sign_eq_one_of_pos (by have h5 := HVN.out; rw [← HVD.out] at h5; omega)
              have hz1 : ¬ 9223372036854775807 < 1 + t2.size := by omega
              clear hv0
              have knu_0 := bxnu.c 0 (.bool sk) rfl
              have knu_1 := bxnu.c 1 (.slice Ak Lk ck) rfl
              go_wp2_with fail
              clear knu_0 knu_1
              refine (sign_is (HX.out.1.ext (by repeat' (first | with_reducible exact Ext.refl _ | with_reducible assumption | with_reducible apply Ext.alloc_r | with_reducible apply Ext.drew_r | with_reducible apply Ext.drewN_r | with_reducible refine Ext.trans ?_ ‹Ext _ _›))) HSS.out).mono ?_
              rintro e w15 ⟨rfl, x15⟩
              have szw15 : wq.heap.size ≤ w15.heap.size := x15.size
              replace bxa := bxa.ext x15
              replace bxnu := bxnu.ext x15
              replace bxde := bxde.ext x15
              replace bxsc := bxsc.ext x15
              replace ltw_0 := x15.cell ltw_0
              replace ltw_1 := x15.cell ltw_1
              replace lva_0 := x15.cell lva_0
              replace lva_1 := x15.cell lva_1
              replace lre_0 := x15.cell lre_0
              replace lre_1 := x15.cell lre_1
              have knu_0 := bxnu.c 0 (.bool sk) rfl
              have knu_1 := bxnu.c 1 (.slice Ak Lk ck) rfl
              go_wp2_with fail
              clear knu_0 knu_1
              refine (sign_is (HVA.out.zv.ext (by repeat' (first | with_reducible exact Ext.refl _ | with_reducible assumption | with_reducible apply Ext.alloc_r | with_reducible apply Ext.drew_r | with_reducible apply Ext.drewN_r | with_reducible refine Ext.trans ?_ ‹Ext _ _›))) HS0.out).mono ?_
              rintro e w16 ⟨rfl, x16⟩
              have szw16 : w15.heap.size ≤ w16.heap.size := x16.size
              replace bxa := bxa.ext x16
              replace bxnu := bxnu.ext x16
              replace bxde := bxde.ext x16
              replace bxsc := bxsc.ext x16
              replace ltw_0 := x16.cell ltw_0
              replace ltw_1 := x16.cell ltw_1
              replace lva_0 := x16.cell lva_0
              replace lva_1 := x16.cell lva_1
              replace lre_0 := x16.cell lre_0
              replace lre_1 := x16.cell lre_1
              have xz : Ext w w16 := (by repeat' (first | with_reducible exact Ext.refl _ | with_reducible assumption | with_reducible apply Ext.alloc_r | with_reducible apply Ext.drew_r | with_reducible apply Ext.drewN_r | with_reducible refine Ext.trans ?_ ‹Ext _ _›))
              have knu_0 := bxnu.c 0 (.bool sk) rfl
              have knu_1 := bxnu.c 1 (.slice Ak Lk ck) rfl
              go_wp2_with fail
              clear knu_0 knu_1
              go_ret2
              refine ⟨_, rfl, ?_, xz⟩
              unfold decT
              rw [if_pos HC.out, bs_append, HT2.out, HVD.out]
              rfl
          · have HC : Hid (¬ (q1.num < 0 ∧ decV q1 p ≠ 0)) := fun h => hsg (by have h5 := Int.sign_eq_neg_one_of_neg h.1; rw [← HSG.out, HSS.out] at h5; omega)
            have knu_0 := bxnu.c 0 (.bool sk) rfl
            have knu_1 := bxnu.c 1 (.slice Ak Lk ck) rfl
            go_wp2_with fail
            clear knu_0 knu_1
            refine (sign_is (HX.out.1.ext (by repeat' (first | with_reducible exact Ext.refl _ | with_reducible assumption | with_reducible apply Ext.alloc_r | with_reducible apply Ext.drew_r | with_reducible apply Ext.drewN_r | with_reducible refine Ext.trans ?_ ‹Ext _ _›))) HSS.out).mono ?_
            rintro e w15 ⟨rfl, x15⟩
            have szw15 : wq.heap.size ≤ w15.heap.size := x15.size
            replace bxa := bxa.ext x15
            replace bxnu := bxnu.ext x15
            replace bxde := bxde.ext x15
            replace bxsc := bxsc.ext x15
            replace ltw_0 := x15.cell ltw_0
            replace ltw_1 := x15.cell ltw_1
            replace lva_0 := x15.cell lva_0
            replace lva_1 := x15.cell lva_1
            replace lre_0 := x15.cell lre_0
            replace lre_1 := x15.cell lre_1
            have xz : Ext w w15 := (by repeat' (first | with_reducible exact Ext.refl _ | with_reducible assumption | with_reducible apply Ext.alloc_r | with_reducible apply Ext.drew_r | with_reducible apply Ext.drewN_r | with_reducible refine Ext.trans ?_ ‹Ext _ _›))
            have knu_0 := bxnu.c 0 (.bool sk) rfl
            have knu_1 := bxnu.c 1 (.slice Ak Lk ck) rfl
            go_wp2_with fail
            clear knu_0 knu_1
            go_ret2
            refine ⟨_, rfl, ?_, xz⟩
            unfold decT
            rw [if_neg HC.out, List.nil_append, HT2.out, HVD.out]
        · have HT2 : Hid (bs tf = pointT (padT (fmtL 10 V) p) p) := by
            show _ = _
            unfold pointT
            rw [if_neg hp0]
            exact HP1.out
          by_cases hsg : S < 0
          · by_cases hv0 : V = 0
            · have HC : Hid (¬ (q1.num < 0 ∧ decV q1 p ≠ 0)) := fun h => h.2 (by rw [← HVD.out]; exact hv0)
              have HS0 : Hid (V.sign = 0) := by show _ = _; rw [hv0]; rfl
              clear hv0
              have knu_0 := bxnu.c 0 (.bool sk) rfl
              have knu_1 := bxnu.c 1 (.slice Ak Lk ck) rfl
              go_wp2_with fail
              clear knu_0 knu_1
              refine (sign_is (HX.out.1.ext (by repeat' (first | with_reducible exact Ext.refl _ | with_reducible assumption | with_reducible apply Ext.alloc_r | with_reducible apply Ext.drew_r | with_reducible apply Ext.drewN_r | with_reducible refine Ext.trans ?_ ‹Ext _ _›))) HSS.out).mono ?_
              rintro e w15 ⟨rfl, x15⟩
              have szw15 : w14.heap.size ≤ w15.heap.size := x15.size
              replace bxa := bxa.ext x15
              replace bxnu := bxnu.ext x15
              replace bxde := bxde.ext x15
              replace bxsc := bxsc.ext x15
              replace ltw_0 := x15.cell ltw_0
              replace ltw_1 := x15.cell ltw_1
              replace lva_0 := x15.cell lva_0
              replace lva_1 := x15.cell lva_1
              replace lre_0 := x15.cell lre_0
              replace lre_1 := x15.cell lre_1
              have knu_0 := bxnu.c 0 (.bool sk) rfl
              have knu_1 := bxnu.c 1 (.slice Ak Lk ck) rfl
              go_wp2_with fail
              clear knu_0 knu_1
              refine (sign_is (HVA.out.zv.ext (by repeat' (first | with_reducible exact Ext.refl _ | with_reducible assumption | with_reducible apply Ext.alloc_r | with_reducible apply Ext.drew_r | with_reducible apply Ext.drewN_r | with_reducible refine Ext.trans ?_ ‹Ext _ _›))) HS0.out).mono ?_
              rintro e w16 ⟨rfl, x16⟩
              have szw16 : w15.heap.size ≤ w16.heap.size := x16.size
              replace bxa := bxa.ext x16
              replace bxnu := bxnu.ext x16
              replace bxde := bxde.ext x16
              replace bxsc := bxsc.ext x16
              replace ltw_0 := x16.cell ltw_0
              replace ltw_1 := x16.cell ltw_1
              replace lva_0 := x16.cell lva_0
              replace lva_1 := x16.cell lva_1
              replace lre_0 := x16.cell lre_0
              replace lre_1 := x16.cell lre_1
              have xz : Ext w w16 := (by repeat' (first | with_reducible exact Ext.refl _ | with_reducible assumption | with_reducible apply Ext.alloc_r | with_reducible apply Ext.drew_r | with_reducible apply Ext.drewN_r | with_reducible refine Ext.trans ?_ ‹Ext _ _›))
              have knu_0 := bxnu.c 0 (.bool sk) rfl
              have knu_1 := bxnu.c 1 (.slice Ak Lk ck) rfl
              go_wp2_with fail
              clear knu_0 knu_1
              go_ret2
              refine ⟨_, rfl, ?_, xz⟩
              unfold decT
              rw [if_neg HC.out, List.nil_append, HT2.out, HVD.out]
            · have HC : Hid (q1.num < 0 ∧ decV q1 p ≠ 0) := ⟨by rw [← Int.sign_eq_neg_one_iff_neg, ← HSG.out, HSS.out]; omega, by rw [← HVD.out]; exact hv0⟩
              have HS0 : Hid (V.sign = 1) := Int.sign_eq_one_of_pos (by have h5 := HVN.out; rw [← HVD.out] at h5; omega)
              have hz1 : ¬ 9223372036854775807 < 1 + tf.size := by omega
              clear hv0
              have knu_0 := bxnu.c 0 (.bool sk) rfl
              have knu_1 := bxnu.c 1 (.slice Ak Lk ck) rfl
              go_wp2_with fail
              clear knu_0 knu_1
              refine (sign_is (HX.out.1.ext (by repeat' (first | with_reducible exact Ext.refl _ | with_reducible assumption | with_reducible apply Ext.alloc_r | with_reducible apply Ext.drew_r | with_reducible apply Ext.drewN_r | with_reducible refine Ext.trans ?_ ‹Ext _ _›))) HSS.out).mono ?_
              rintro e w15 ⟨rfl, x15⟩
              have szw15 : w14.heap.size ≤ w15.heap.size := x15.size
              replace bxa := bxa.ext x15
              replace bxnu := bxnu.ext x15
              replace bxde := bxde.ext x15
              replace bxsc := bxsc.ext x15
              replace ltw_0 := x15.cell ltw_0
              replace ltw_1 := x15.cell ltw_1
              replace lva_0 := x15.cell lva_0
              replace lva_1 := x15.cell lva_1
              replace lre_0 := x15.cell lre_0
              replace lre_1 := x15.cell lre_1
              have knu_0 := bxnu.c 0 (.bool sk) rfl
              have knu_1 := bxnu.c 1 (.slice Ak Lk ck) rfl
              go_wp2_with fail
              clear knu_0 knu_1
              refine (sign_is (HVA.out.zv.ext (by repeat' (first | with_reducible exact Ext.refl _ | with_reducible assumption | with_reducible apply Ext.alloc_r | with_reducible apply Ext.drew_r | with_reducible apply Ext.drewN_r | with_reducible refine Ext.trans ?_ ‹Ext _ _›))) HS0.out).mono ?_
              rintro e w16 ⟨rfl, x16⟩
              have szw16 : w15.heap.size ≤ w16.heap.size := x16.size
              replace bxa := bxa.ext x16
              replace bxnu := bxnu.ext x16
              replace bxde := bxde.ext x16
              replace bxsc := bxsc.ext x16
              replace ltw_0 := x16.cell ltw_0
              replace ltw_1 := x16.cell ltw_1
              replace lva_0 := x16.cell lva_0
              replace lva_1 := x16.cell lva_1
              replace lre_0 := x16.cell lre_0
              replace lre_1 := x16.cell lre_1
              have xz : Ext w w16 := (by repeat' (first | with_reducible exact Ext.refl _ | with_reducible assumption | with_reducible apply Ext.alloc_r | with_reducible apply Ext.drew_r | with_reducible apply Ext.drewN_r | with_reducible refine Ext.trans ?_ ‹Ext _ _›))
              have knu_0 := bxnu.c 0 (.bool sk) rfl
              have knu_1 := bxnu.c 1 (.slice Ak Lk ck) rfl
              go_wp2_with fail
              clear knu_0 knu_1
              go_ret2
              refine ⟨_, rfl, ?_, xz⟩
              unfold decT
              rw [if_pos HC.out, bs_append, HT2.out, HVD.out]
              rfl
          · have HC : Hid (¬ (q1.num < 0 ∧ decV q1 p ≠ 0)) := fun h => hsg (by have h5 := Int.sign_eq_neg_one_of_neg h.1; rw [← HSG.out, HSS.out] at h5; omega)
            have knu_0 := bxnu.c 0 (.bool sk) rfl
            have knu_1 := bxnu.c 1 (.slice Ak Lk ck) rfl
            go_wp2_with fail
            clear knu_0 knu_1
            refine (sign_is (HX.out.1.ext (by repeat' (first | with_reducible exact Ext.refl _ | with_reducible assumption | with_reducible apply Ext.alloc_r | with_reducible apply Ext.drew_r | with_reducible apply Ext.drewN_r | with_reducible refine Ext.trans ?_ ‹Ext _ _›))) HSS.out).mono ?_
            rintro e w15 ⟨rfl, x15⟩
            have szw15 : w14.heap.size ≤ w15.heap.size := x15.size
            replace bxa := bxa.ext x15
            replace bxnu := bxnu.ext x15
            replace bxde := bxde.ext x15
            replace bxsc := bxsc.ext x15
            replace ltw_0 := x15.cell ltw_0
            replace ltw_1 := x15.cell ltw_1
            replace lva_0 := x15.cell lva_0
            replace lva_1 := x15.cell lva_1
            replace lre_0 := x15.cell lre_0
            replace lre_1 := x15.cell lre_1
            have xz : Ext w w15 := (by repeat' (first | with_reducible exact Ext.refl _ | with_reducible assumption | with_reducible apply Ext.alloc_r | with_reducible apply Ext.drew_r | with_reducible apply Ext.drewN_r | with_reducible refine Ext.trans ?_ ‹Ext _ _›))
            have knu_0 := bxnu.c 0 (.bool sk) rfl
            have knu_1 := bxnu.c 1 (.slice Ak Lk ck) rfl
            go_wp2_with fail
            clear knu_0 knu_1
            go_ret2
            refine ⟨_, rfl, ?_, xz⟩
            unfold decT
            rw [if_neg HC.out, List.nil_append, HT2.out, HVD.out]
end Go.Proofs.Ytfnmbhjifdfibaa
