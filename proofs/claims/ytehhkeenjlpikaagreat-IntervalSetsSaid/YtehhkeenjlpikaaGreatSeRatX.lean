/- Fractions: plain laws, parts and reduce. -/
import Derived.Test.YtehhkeenjlpikaaGreatDivX
import Derived.Test.YtehhkeenjlpikaaGreatSeLawZ
import Derived.Deep.RegionHeldLaw
namespace Go.Proofs.YtehhkeenjlpikaaGreat
open Go.RowKit
/-- The order of two fractions: -1, 0 or 1. -/
def cmpQ (a b : Rat) : Int := if a < b then -1 else if b < a then 1 else 0
theorem rat_num_mk {x : Int} {y : Nat} (hy : 0 < y) : (mkRat x y).num = x.tdiv (Nat.gcd x.natAbs y : Nat) := by
  rw [Rat.num_mkRat, if_neg (by omega), Nat.gcd_comm]
  exact (Int.tdiv_eq_ediv_of_dvd (Int.ofNat_dvd_left.2 (Nat.gcd_dvd_left _ _))).symm
theorem rat_den_mk {x : Int} {y : Nat} (hy : 0 < y) : (mkRat x y).den = y / Nat.gcd x.natAbs y := by
  rw [Rat.den_mkRat, if_neg (by omega), Nat.gcd_comm]
theorem rat_num_le {x : Int} {y : Nat} (hy : 0 < y) : (mkRat x y).num.natAbs ≤ x.natAbs := by
  rw [rat_num_mk hy, Int.natAbs_tdiv]; exact Nat.div_le_self _ _
theorem rat_den_le {x : Int} {y : Nat} (hy : 0 < y) : (mkRat x y).den ≤ y := by
  rw [rat_den_mk hy]; exact Nat.div_le_self _ _
theorem rat_sign {x : Int} {y : Nat} (hy : 0 < y) : (mkRat x y).num.sign = x.sign := by
  have hg : 0 < Nat.gcd x.natAbs y := Nat.gcd_pos_of_pos_right _ hy
  have hd : ((Nat.gcd x.natAbs y : Nat) : Int) ∣ x := Int.ofNat_dvd_left.2 (Nat.gcd_dvd_left _ _)
  rw [rat_num_mk hy]
  obtain ⟨k, hk⟩ := hd
  have h1 : x.tdiv (Nat.gcd x.natAbs y : Nat) = k := by
    rw [Int.tdiv_eq_ediv_of_dvd (Int.ofNat_dvd_left.2 (Nat.gcd_dvd_left _ _))]
    conv => lhs; lhs; rw [hk]
    exact Int.mul_ediv_cancel_left _ (by omega)
  rw [h1]
  have h2 : x.sign = ((Nat.gcd x.natAbs y : Nat) : Int).sign * k.sign := by rw [← Int.sign_mul, ← hk]
  rw [h2, Int.sign_eq_one_of_pos (by omega : (0:Int) < ((Nat.gcd x.natAbs y : Nat) : Int)), Int.one_mul]
theorem rat_pos {x : Int} {y : Nat} (hy : 0 < y) : 0 < mkRat x y ↔ 0 < x := by
  rw [Rat.lt_iff]
  have h := rat_sign (x := x) hy
  show (0 : Int) * _ < _ * (1 : Int) ↔ _
  rw [Int.zero_mul, Int.mul_one, ← Int.sign_eq_one_iff_pos, h, Int.sign_eq_one_iff_pos]
theorem rat_lt {x z : Int} {y t : Nat} (hy : 0 < y) (ht : 0 < t) : mkRat x y < mkRat z t ↔ x * t < z * y := by
  rw [Rat.lt_iff_sub_pos, Rat.sub_eq_add_neg, Rat.neg_mkRat, Rat.mkRat_add_mkRat _ _ (by omega) (by omega), rat_pos (Nat.mul_pos ht hy), Int.neg_mul]
  omega
theorem cmpQ_mk {x z : Int} {y t : Nat} (hy : 0 < y) (ht : 0 < t) : cmpZ (x * t) (z * y) = cmpQ (mkRat x y) (mkRat z t) := by
  unfold cmpZ cmpQ
  simp only [rat_lt hy ht, rat_lt ht hy]
theorem rat_sub_mk {x z : Int} {y t : Nat} (hy : 0 < y) (ht : 0 < t) : mkRat x y - mkRat z t = mkRat (x * t - z * y) (y * t) := by
  rw [Rat.sub_eq_add_neg, Rat.neg_mkRat, Rat.mkRat_add_mkRat _ _ (by omega) (by omega), Int.neg_mul]; rfl
/-- An argument: a fraction by two numbers of at most N digits, not necessarily in lowest terms; with denominator 0 it is 0. -/
structure RV (w : World) (s : Bool) (A : Option Addr) (c L : Nat) (B : Option Addr) (d M N : Nat) (q : Rat) : Prop where
  ex : ∃ (x : Int) (y : Nat), ZV w s A c L x ∧ NV w B d M y ∧ q = mkRat x y ∧ dl x.natAbs ≤ N ∧ dl y ≤ N
  one : 1 ≤ N
/-- A fraction in lowest terms in memory of the call's own. -/
structure RO (w : World) (g : Nat) (s : Bool) (A : Option Addr) (c L : Nat) (B : Option Addr) (d M N : Nat) (q : Rat) : Prop where
  num : ZO w g s A c L q.num
  den : NO w g B d q.den
  len : M = (digs B32 q.den).length
  dn : dl q.num.natAbs ≤ N
  dd : dl q.den ≤ N
theorem dl_one : dl 1 = 1 := dl_lit (ds := [1]) (by intro d hd; simp at hd; subst hd; unfold B32; omega) (by simp) (by simp [val])
section
variable {w w' : World} {s : Bool} {A B : Option Addr} {c d L M N g : Nat} {q : Rat}
theorem RV.ext (h : RV w s A c L B d M N q) (hx : Ext w w') : RV w' s A c L B d M N q := by
  obtain ⟨x, y, h1, h2, h3⟩ := h.ex
  exact ⟨⟨x, y, h1.ext hx, h2.ext hx, h3⟩, h.one⟩
theorem RO.ext (h : RO w g s A c L B d M N q) (hx : Ext w w') : RO w' g s A c L B d M N q := ⟨h.num.ext hx, h.den.ext hx, h.len, h.dn, h.dd⟩
theorem RO.mono {g' : Nat} (h : RO w g s A c L B d M N q) (hg : g' ≤ g) : RO w g' s A c L B d M N q := ⟨h.num.mono hg, Own.mono h.den hg, h.len, h.dn, h.dd⟩
theorem RO.rv (h : RO w g s A c L B d M N q) : RV w s A c L B d M N q := by
  refine ⟨⟨q.num, q.den, h.num.zv, by rw [h.len]; exact h.den.nv, (Rat.mkRat_self q).symm, h.dn, h.dd⟩, ?_⟩
  have h1 := dl_mono q.den_pos
  rw [show dl (0 + 1) = 1 from dl_one] at h1
  exact Nat.le_trans h1 h.dd
end
theorem no_zero (w : World) (g : Nat) : NO w g none 0 0 := by
  unfold NO
  rw [digs_zero]
  exact Own.none_ w g _ _
theorem zv_zero (w : World) : ZV w false none 0 0 0 := by
  have h := NO.nv (no_zero w 0)
  rw [digs_zero] at h
  exact ⟨h, (fun h => by cases h), fun _ => Int.le_refl _⟩
/-- The call returns the fraction q, of at most N digits, in lowest terms and new memory. -/
def RetR (w : World) (N : Nat) (q : Rat) (e : Ending) (w' : World) : Prop := ∃ s A c L B d M, e = .returned (.agg #[.bool s, .slice A L c, .slice B M d]) ∧ RO w' w.heap.size s A c L B d M N q ∧ Ext w w'
/-- The call returns the integer n, which is not negative, in new memory. -/
def RetZP (w : World) (n : Nat) (e : Ending) (w' : World) : Prop := ∃ A c L, e = .returned (.agg #[.bool false, .slice A L c]) ∧ ZO w' w.heap.size false A c L (n : Int) ∧ Ext w w'
theorem toP {F : Nat} {args : Array Value} {w : World} {n : Nat} {x : Int} (hx : x = (n : Int)) (h : Calls Tryz.prog F args w (RetZ w x)) : Calls Tryz.prog F args w (RetZP w n) := by
  subst hx
  refine h.mono ?_
  rintro e w' ⟨s, A, c, L, rfl, hz, hxx⟩
  obtain rfl : s = false := by rw [hz.sign]; simp
  exact ⟨_, _, _, rfl, hz, hxx⟩
/-- The call returns two integers, the second positive, whose quotient is q. -/
def RetP (w : World) (N : Nat) (q : Rat) (e : Ending) (w' : World) : Prop := ∃ (x : Int) (y : Nat) (s : Bool) (A : Option Addr) (c L : Nat) (B : Option Addr) (d M : Nat), e = .returned (.tuple #[.agg #[.bool s, .slice A L c], .agg #[.bool false, .slice B M d]]) ∧ ZV w' s A c L x ∧ ZV w' false B d M (y : Int) ∧ 0 < y ∧ q = mkRat x y ∧ dl x.natAbs ≤ N ∧ dl y ≤ N ∧ Ext w w'
section
variable {w w4 ww : World} {g1 g2 : Nat} {u1 u2 u3 u4 r1 r2 r3 r4 : Value}
end
/-- A box: its cells, its type, and nothing in it is frozen. -/
def BK (w : World) (g : Nat) (T : TypeId) (vs : Array Value) : Prop := w.heap[g]? = some (.cells vs T (0, 0))
section
variable {w w' : World} {g : Nat} {T : TypeId} {vs : Array Value}
theorem BK.new (w : World) (vs : Array Value) (T : TypeId) : BK (w.alloc (.cells vs T)) w.heap.size T vs := heap_alloc_new w _
theorem BK.lt (h : BK w g T vs) : g < w.heap.size := (Array.getElem?_eq_some_iff.1 h).1
theorem BK.ext (h : BK w g T vs) (hx : Ext w w') : BK w' g T vs := (Below.block hx g h.lt).trans h
theorem BK.c (h : BK w g T vs) (i : Nat) (v : Value) (hv : vs[i]? = some v) : w.cell? ⟨g, i, none⟩ = some v := by rw [cell_of_row _ _ i _ _ (0, 0) h]; exact hv
theorem BK.f (h : BK w g T vs) (i : Nat) : w.frozen? ⟨g, i, none⟩ = false := by
  simp only [World.frozen?]; rw [h]; simp
theorem BK.far (h : BK w g T vs) {g' : Nat} (hne : g ≠ g') (i : Nat) (u : Value) : BK (w.setCell ⟨g', i, none⟩ u) g T vs := (Below.heap_setCell w ⟨g', i, none⟩ u g hne).trans h
theorem BK.set {i : Nat} {u : Value} {vs' : Array Value} (h : BK w g T vs) (hv : vs.setIfInBounds i u = vs') : BK (w.setCell ⟨g, i, none⟩ u) g T vs' := by
  unfold BK at *
  subst hv
  simp only [World.setCell, Array.getElem?_modify, h, if_true, Option.map_some]
  first | rfl | simp
theorem BK.isBox (h : BK w g T vs) : IsBox w g T := ⟨vs, (0, 0), h⟩
end
theorem plain_rat : ¬ Plain 27 := by unfold Plain; decide
theorem RO.kept {w w' : World} {s : Bool} {A B : Option Addr} {c d L M N g : Nat} {q : Rat} (h : RO w g s A c L B d M N q) (hk : Kept w w') : RO w' g s A c L B d M N q := ⟨h.num.kept hk, h.den.kept hk, h.len, h.dn, h.dd⟩
set_option maxHeartbeats 4000000 in
set_option maxRecDepth 100000 in
theorem parts_r {w : World} {s : Bool} {A B : Option Addr} {c d L M N : Nat} {q : Rat} (h : RV w s A c L B d M N q) :
    Calls Tryz.prog 75 #[Value.agg #[.bool s, .slice A L c, .slice B M d]] w (RetP w N q) := by
  obtain ⟨x, y, hx, hy, hq, b1, b2⟩ := h.ex
  have hN := h.one
  have HZ : Hid (∀ w', Ext w w' → Calls Tryz.prog 104 #[.slice B M d] w' fun e w'' => e = .returned (.bool (y == 0)) ∧ w' = w'') := fun w' hx => isZero_v (hy.ext hx)
  have HH := Lib.hid (And.intro hx hy)
  have HQ := Lib.hid hq
  have HB := Lib.hid (And.intro b1 b2)
  clear h hx hy hq b1 b2
  go_enter Tryz.func75, Tryz.ntmps75
  go_wp2_with fail
  obtain ⟨w0, hw0⟩ : ∃ z : World, z = (((w.alloc (.cells #[.bool s, .slice A L c, .slice B M d] 27)).alloc (.cells #[.bool false, .slice none 0 0] 25)).alloc (.cells #[.bool false, .slice none 0 0] 25)) := ⟨_, rfl⟩
  rw [← hw0]
  have bxa : BK w0 (w.heap.size) 27 #[.bool s, .slice A L c, .slice B M d] := by rw [hw0]; have h5 := (BK.ext (BK.ext (BK.new w #[.bool s, .slice A L c, .slice B M d] 27) (Ext.alloc _ (.cells #[.bool false, .slice none 0 0] 25))) (Ext.alloc _ (.cells #[.bool false, .slice none 0 0] 25))); simpa only [World.size_alloc] using h5
  have bxn : BK w0 (w.heap.size + 1) 25 #[.bool false, .slice none 0 0] := by rw [hw0]; have h5 := (BK.ext (BK.new (w.alloc (.cells #[.bool s, .slice A L c, .slice B M d] 27)) #[.bool false, .slice none 0 0] 25) (Ext.alloc _ (.cells #[.bool false, .slice none 0 0] 25))); simpa only [World.size_alloc] using h5
  have bxm : BK w0 (w.heap.size + 1 + 1) 25 #[.bool false, .slice none 0 0] := by rw [hw0]; have h5 := (BK.new ((w.alloc (.cells #[.bool s, .slice A L c, .slice B M d] 27)).alloc (.cells #[.bool false, .slice none 0 0] 25)) #[.bool false, .slice none 0 0] 25); simpa only [World.size_alloc] using h5
  have hszw0 : w0.heap.size = w.heap.size + 1 + 1 + 1 := by rw [hw0]; simp only [World.size_alloc]
  have xw0 : Ext w w0 := by rw [hw0]; exact (((Ext.alloc _ _).trans (Ext.alloc _ _)).trans (Ext.alloc _ _))
  clear hw0
  by_cases h0 : y = 0
  · have hy0 : (y == 0) = true := by rw [h0]; rfl
    rw [hy0] at HZ
    have ka_0 := bxa.c 0 (.bool s) rfl
    have ka_1 := bxa.c 1 (.slice A L c) rfl
    have ka_2 := bxa.c 2 (.slice B M d) rfl
    have kn_0 := bxn.c 0 (.bool false) rfl
    have kn_1 := bxn.c 1 (.slice none 0 0) rfl
    have km_0 := bxm.c 0 (.bool false) rfl
    have km_1 := bxm.c 1 (.slice none 0 0) rfl
    go_wp2_with fail
    clear ka_0 ka_1 ka_2 kn_0 kn_1 km_0 km_1
    refine (HZ.out _ xw0).mono ?_
    rintro e w1 ⟨rfl, rfl⟩
    clear HZ
    have ka_0 := bxa.c 0 (.bool s) rfl
    have ka_1 := bxa.c 1 (.slice A L c) rfl
    have ka_2 := bxa.c 2 (.slice B M d) rfl
    have kn_0 := bxn.c 0 (.bool false) rfl
    have fn_0 := bxn.f 0
    have kn_1 := bxn.c 1 (.slice none 0 0) rfl
    have fn_1 := bxn.f 1
    have km_0 := bxm.c 0 (.bool false) rfl
    have fm_0 := bxm.f 0
    have km_1 := bxm.c 1 (.slice none 0 0) rfl
    have fm_1 := bxm.f 1
    go_wp2_with fail
    clear ka_0 ka_1 ka_2 kn_0 fn_0 kn_1 fn_1 km_0 fm_0 km_1 fm_1
    refine (of_z (by omega)).mono ?_
    rintro e w1 ⟨si, Ai, ci, Li, rfl, i, x1⟩
    replace bxa := bxa.ext x1
    replace bxn := bxn.ext x1
    replace bxm := bxm.ext x1
    obtain rfl : si = false := by rw [i.sign]; rfl
    have HI := Lib.hid i
    clear i
    have ka_0 := bxa.c 0 (.bool s) rfl
    have ka_1 := bxa.c 1 (.slice A L c) rfl
    have ka_2 := bxa.c 2 (.slice B M d) rfl
    have kn_0 := bxn.c 0 (.bool false) rfl
    have fn_0 := bxn.f 0
    have kn_1 := bxn.c 1 (.slice none 0 0) rfl
    have fn_1 := bxn.f 1
    have km_0 := bxm.c 0 (.bool false) rfl
    have fm_0 := bxm.f 0
    have km_1 := bxm.c 1 (.slice none 0 0) rfl
    have fm_1 := bxm.f 1
    go_wp2_with fail
    clear ka_0 ka_1 ka_2 kn_0 fn_0 kn_1 fn_1 km_0 fm_0 km_1 fm_1
    replace i := HI.out
    clear HI
    obtain ⟨w2, hw⟩ : ∃ z : World, z = ((((w1.setCell ⟨w.heap.size + 1, 0, none⟩ (.bool false)).setCell ⟨w.heap.size + 1, 1, none⟩ (.slice none 0 0)).setCell ⟨w.heap.size + 1 + 1, 0, none⟩ (.bool false)).setCell ⟨w.heap.size + 1 + 1, 1, none⟩ (.slice Ai Li ci)) := ⟨_, rfl⟩
    rw [← hw]
    have kw2 : Kept w1 w2 := by rw [hw]; exact (Kept.set_ (Kept.set_ (Kept.set_ (Kept.set_ (Kept.refl _) bxn.isBox plain_int) (IsBox.set_ bxn.isBox) plain_int) (IsBox.set_ (IsBox.set_ bxm.isBox)) plain_int) (IsBox.set_ (IsBox.set_ (IsBox.set_ bxm.isBox))) plain_int)
    have nba : BK w2 (w.heap.size) 27 #[.bool s, .slice A L c, .slice B M d] := by rw [hw]; exact (BK.far (BK.far (BK.far (BK.far bxa (show w.heap.size ≠ w.heap.size + 1 by omega) 0 _) (show w.heap.size ≠ w.heap.size + 1 by omega) 1 _) (show w.heap.size ≠ w.heap.size + 1 + 1 by omega) 0 _) (show w.heap.size ≠ w.heap.size + 1 + 1 by omega) 1 _)
    have nbn : BK w2 (w.heap.size + 1) 25 #[.bool false, .slice none 0 0] := by rw [hw]; exact (BK.far (BK.far (BK.set (i := 1) (u := .slice none 0 0) (vs' := #[.bool false, .slice none 0 0]) (BK.set (i := 0) (u := .bool false) (vs' := #[.bool false, .slice none 0 0]) bxn rfl) rfl) (show w.heap.size + 1 ≠ w.heap.size + 1 + 1 by omega) 0 _) (show w.heap.size + 1 ≠ w.heap.size + 1 + 1 by omega) 1 _)
    have nbm : BK w2 (w.heap.size + 1 + 1) 25 #[.bool false, .slice Ai Li ci] := by rw [hw]; exact (BK.set (i := 1) (u := .slice Ai Li ci) (vs' := #[.bool false, .slice Ai Li ci]) (BK.set (i := 0) (u := .bool false) (vs' := #[.bool false, .slice none 0 0]) (BK.far (BK.far bxm (show w.heap.size + 1 + 1 ≠ w.heap.size + 1 by omega) 0 _) (show w.heap.size + 1 + 1 ≠ w.heap.size + 1 by omega) 1 _) rfl) rfl)
    have x2 : Ext w w2 := by rw [hw]; have hxp : Ext w w1 := (by with_reducible repeat' first | exact Ext.refl _ | assumption | apply Ext.alloc_r | apply Ext.drew_r | apply Ext.drewN_r | refine Ext.trans ?_ ‹Ext _ _›); exact (Ext.set_ (Ext.set_ (Ext.set_ (Ext.set_ hxp (show _ ≤ w.heap.size + 1 by omega)) (show _ ≤ w.heap.size + 1 by omega)) (show _ ≤ w.heap.size + 1 + 1 by omega)) (show _ ≤ w.heap.size + 1 + 1 by omega))
    clear bxa
    clear bxn
    clear bxm
    have bxa := nba
    clear nba
    have bxn := nbn
    clear nbn
    have bxm := nbm
    clear nbm
    replace i := i.kept kw2
    clear hw kw2
    have HI := Lib.hid i
    clear i
    have ka_0 := bxa.c 0 (.bool s) rfl
    have ka_1 := bxa.c 1 (.slice A L c) rfl
    have ka_2 := bxa.c 2 (.slice B M d) rfl
    have kn_0 := bxn.c 0 (.bool false) rfl
    have kn_1 := bxn.c 1 (.slice none 0 0) rfl
    have km_0 := bxm.c 0 (.bool false) rfl
    have km_1 := bxm.c 1 (.slice Ai Li ci) rfl
    refine bodyPost_ret (v := .tuple #[.agg #[.bool false, .slice none 0 0], .agg #[.bool false, .slice Ai Li ci]]) (by simp [results, Tryz.results75, go_sem, kn_0, kn_1, km_0, km_1]) rfl ?_
    exact ⟨0, 1, _, _, _, _, _, _, _, rfl, zv_zero _, HI.out.zv, by omega, by rw [HQ.out, h0, Rat.mkRat_zero, Rat.zero_mkRat], Nat.zero_le _, by rw [dl_one]; exact hN, x2⟩
  · have hy0 : (y == 0) = false := by simpa using h0
    rw [hy0] at HZ
    have ka_0 := bxa.c 0 (.bool s) rfl
    have ka_1 := bxa.c 1 (.slice A L c) rfl
    have ka_2 := bxa.c 2 (.slice B M d) rfl
    have kn_0 := bxn.c 0 (.bool false) rfl
    have kn_1 := bxn.c 1 (.slice none 0 0) rfl
    have km_0 := bxm.c 0 (.bool false) rfl
    have km_1 := bxm.c 1 (.slice none 0 0) rfl
    go_wp2_with fail
    clear ka_0 ka_1 ka_2 kn_0 kn_1 km_0 km_1
    refine (HZ.out _ xw0).mono ?_
    rintro e w1 ⟨rfl, rfl⟩
    clear HZ
    have ka_0 := bxa.c 0 (.bool s) rfl
    have ka_1 := bxa.c 1 (.slice A L c) rfl
    have ka_2 := bxa.c 2 (.slice B M d) rfl
    have kn_0 := bxn.c 0 (.bool false) rfl
    have fn_0 := bxn.f 0
    have kn_1 := bxn.c 1 (.slice none 0 0) rfl
    have fn_1 := bxn.f 1
    have km_0 := bxm.c 0 (.bool false) rfl
    have fm_0 := bxm.f 0
    have km_1 := bxm.c 1 (.slice none 0 0) rfl
    have fm_1 := bxm.f 1
    go_wp2_with fail
    have n1 : w.heap.size + 1 ≠ w.heap.size := by omega
    have n2 : w.heap.size + 1 + 1 ≠ w.heap.size := by omega
    go_region_held3 (fun w' => w'.cell? ⟨w.heap.size, 0, none⟩ = some (.bool s) ∧ w'.cell? ⟨w.heap.size, 1, none⟩ = some (.slice A L c) ∧ w'.cell? ⟨w.heap.size, 2, none⟩ = some (.slice B M d))
      (first | exact ⟨ka_0, ka_1, ka_2⟩ | exact ⟨cell_far n1 (cell_far n1 ka_0), cell_far n1 (cell_far n1 ka_1), cell_far n1 (cell_far n1 ka_2)⟩ | exact ⟨cell_far n2 (cell_far n2 (cell_far n1 (cell_far n1 ka_0))), cell_far n2 (cell_far n2 (cell_far n1 (cell_far n1 ka_1))), cell_far n2 (cell_far n2 (cell_far n1 (cell_far n1 ka_2)))⟩ | exact ⟨cell_far n2 (cell_far n2 ka_0), cell_far n2 (cell_far n2 ka_1), cell_far n2 (cell_far n2 ka_2)⟩)
      (fail)
    clear ka_0 ka_1 ka_2 kn_0 fn_0 kn_1 fn_1 km_0 fm_0 km_1 fm_1
    obtain ⟨w1, hw⟩ : ∃ z : World, z = ((((w0.setCell ⟨w.heap.size + 1, 0, none⟩ (.bool s)).setCell ⟨w.heap.size + 1, 1, none⟩ (.slice A L c)).setCell ⟨w.heap.size + 1 + 1, 0, none⟩ (.bool false)).setCell ⟨w.heap.size + 1 + 1, 1, none⟩ (.slice B M d)) := ⟨_, rfl⟩
    rw [← hw]
    have kw1 : Kept w0 w1 := by rw [hw]; exact (Kept.set_ (Kept.set_ (Kept.set_ (Kept.set_ (Kept.refl _) bxn.isBox plain_int) (IsBox.set_ bxn.isBox) plain_int) (IsBox.set_ (IsBox.set_ bxm.isBox)) plain_int) (IsBox.set_ (IsBox.set_ (IsBox.set_ bxm.isBox))) plain_int)
    have nba : BK w1 (w.heap.size) 27 #[.bool s, .slice A L c, .slice B M d] := by rw [hw]; exact (BK.far (BK.far (BK.far (BK.far bxa (show w.heap.size ≠ w.heap.size + 1 by omega) 0 _) (show w.heap.size ≠ w.heap.size + 1 by omega) 1 _) (show w.heap.size ≠ w.heap.size + 1 + 1 by omega) 0 _) (show w.heap.size ≠ w.heap.size + 1 + 1 by omega) 1 _)
    have nbn : BK w1 (w.heap.size + 1) 25 #[.bool s, .slice A L c] := by rw [hw]; exact (BK.far (BK.far (BK.set (i := 1) (u := .slice A L c) (vs' := #[.bool s, .slice A L c]) (BK.set (i := 0) (u := .bool s) (vs' := #[.bool s, .slice none 0 0]) bxn rfl) rfl) (show w.heap.size + 1 ≠ w.heap.size + 1 + 1 by omega) 0 _) (show w.heap.size + 1 ≠ w.heap.size + 1 + 1 by omega) 1 _)
    have nbm : BK w1 (w.heap.size + 1 + 1) 25 #[.bool false, .slice B M d] := by rw [hw]; exact (BK.set (i := 1) (u := .slice B M d) (vs' := #[.bool false, .slice B M d]) (BK.set (i := 0) (u := .bool false) (vs' := #[.bool false, .slice none 0 0]) (BK.far (BK.far bxm (show w.heap.size + 1 + 1 ≠ w.heap.size + 1 by omega) 0 _) (show w.heap.size + 1 + 1 ≠ w.heap.size + 1 by omega) 1 _) rfl) rfl)
    have x1 : Ext w w1 := by rw [hw]; have hxp : Ext w w0 := (by with_reducible repeat' first | exact Ext.refl _ | assumption | apply Ext.alloc_r | apply Ext.drew_r | apply Ext.drewN_r | refine Ext.trans ?_ ‹Ext _ _›); exact (Ext.set_ (Ext.set_ (Ext.set_ (Ext.set_ hxp (show _ ≤ w.heap.size + 1 by omega)) (show _ ≤ w.heap.size + 1 by omega)) (show _ ≤ w.heap.size + 1 + 1 by omega)) (show _ ≤ w.heap.size + 1 + 1 by omega))
    clear bxa
    clear bxn
    clear bxm
    have bxa := nba
    clear nba
    have bxn := nbn
    clear nbn
    have bxm := nbm
    clear nbm
    clear hw kw1
    have ka_0 := bxa.c 0 (.bool s) rfl
    have ka_1 := bxa.c 1 (.slice A L c) rfl
    have ka_2 := bxa.c 2 (.slice B M d) rfl
    have kn_0 := bxn.c 0 (.bool s) rfl
    have kn_1 := bxn.c 1 (.slice A L c) rfl
    have km_0 := bxm.c 0 (.bool false) rfl
    have km_1 := bxm.c 1 (.slice B M d) rfl
    go_wp2_with fail
    refine bodyPost_ret (v := .tuple #[.agg #[.bool s, .slice A L c], .agg #[.bool false, .slice B M d]]) (by simp [results, Tryz.results75, go_sem, kn_0, kn_1, km_0, km_1]) rfl ?_
    exact ⟨x, y, _, _, _, _, _, _, _, rfl, HH.out.1.ext (x1.trans (Ext.drew _)), ⟨by rw [Int.natAbs_natCast]; exact HH.out.2.ext (x1.trans (Ext.drew _)), (fun h => by cases h), fun _ => Int.natCast_nonneg _⟩, by omega, HQ.out, HB.out.1, HB.out.2, x1.trans (Ext.drew _)⟩
set_option maxHeartbeats 4000000 in
set_option maxRecDepth 100000 in
theorem reduce_r {w : World} {s1 : Bool} {A1 A2 : Option Addr} {c1 c2 L1 L2 N : Nat} {x : Int} {y : Nat} (h1 : ZV w s1 A1 c1 L1 x) (h2 : ZV w false A2 c2 L2 (y : Int)) (hy : 0 < y) (b1 : dl x.natAbs ≤ N) (b2 : dl y ≤ N) (hN : N ≤ 1000000) :
    Calls Tryz.prog 82 #[.agg #[.bool s1, .slice A1 L1 c1], .agg #[.bool false, .slice A2 L2 c2]] w (RetR w N (mkRat x y)) := by
  obtain ⟨G, hG⟩ : ∃ G, G = Nat.gcd x.natAbs y := ⟨_, rfl⟩
  have hG0 : 0 < G := by rw [hG]; exact Nat.gcd_pos_of_pos_right _ hy
  have hGy : G ≤ y := by rw [hG]; exact Nat.gcd_le_right _ hy
  have hGd : dl G ≤ N := Nat.le_trans (dl_mono hGy) b2
  have hnum : (mkRat x y).num = x.tdiv (G : Int) := by rw [hG]; exact rat_num_mk hy
  have hden : ((mkRat x y).den : Int) = (y : Int).tdiv (G : Int) := by rw [hG, rat_den_mk hy]; rfl
  have hdn : dl (mkRat x y).num.natAbs ≤ N := Nat.le_trans (dl_mono (rat_num_le hy)) b1
  have hdd : dl (mkRat x y).den ≤ N := Nat.le_trans (dl_mono (rat_den_le hy)) b2
  have HGC : Hid (∀ w', Ext w w' → Calls Tryz.prog 108 #[.agg #[.bool s1, .slice A1 L1 c1], .agg #[.bool false, .slice A2 L2 c2]] w' (RetZ w' (G : Int))) := fun w' hx => by
    have h5 := gcd_z (h1.ext hx) (h2.ext hx) (by omega) (by rw [Int.natAbs_natCast]; omega)
    rw [Int.natAbs_natCast, ← hG] at h5
    exact h5
  have hGb : ((G : Int) == 0) = false := by rw [beq_eq_false_iff_ne]; omega
  have hGn : dl (G : Int).natAbs ≤ 1000000000 := by rw [Int.natAbs_natCast]; omega
  have HQ1 : Hid (∀ w' s A c L, ZV w' s A c L (G : Int) → Ext w w' → Calls Tryz.prog 109 #[.agg #[.bool s1, .slice A1 L1 c1], .agg #[.bool s, .slice A L c]] w' (RetQR w' (mkRat x y).num (x.tmod (G : Int)))) := fun w' s A c L hz hx => by
    rw [hnum]
    exact quo_z (h1.ext hx) hz hGb (by omega) hGn
  have HQ2 : Hid (∀ w' s A c L, ZV w' s A c L (G : Int) → Ext w w' → Calls Tryz.prog 109 #[.agg #[.bool false, .slice A2 L2 c2], .agg #[.bool s, .slice A L c]] w' (RetQR w' ((mkRat x y).den : Int) ((y : Int).tmod (G : Int)))) := fun w' s A c L hz hx => by
    rw [hden]
    exact quo_z (h2.ext hx) hz hGb (by rw [Int.natAbs_natCast]; omega) hGn
  have HD := Lib.hid (And.intro hdn hdd)
  clear h1 h2 b1 b2 hG hG0 hGy hGd hnum hden hdn hdd hGb hGn hy
  generalize mkRat x y = q at *
  generalize hm1 : x.tmod (G : Int) = m1 at *
  generalize hm2 : (y : Int).tmod (G : Int) = m2 at *
  clear hm1 hm2
  go_enter Tryz.func82, Tryz.ntmps82
  go_wp2_with fail
  obtain ⟨w0, hw0⟩ : ∃ z : World, z = (((w.alloc (.cells #[.bool s1, .slice A1 L1 c1] 25)).alloc (.cells #[.bool false, .slice A2 L2 c2] 25)).alloc (.cells #[.bool false, .slice none 0 0, .slice none 0 0] 27)) := ⟨_, rfl⟩
  rw [← hw0]
  have bxn : BK w0 (w.heap.size) 25 #[.bool s1, .slice A1 L1 c1] := by rw [hw0]; have h5 := (BK.ext (BK.ext (BK.new w #[.bool s1, .slice A1 L1 c1] 25) (Ext.alloc _ (.cells #[.bool false, .slice A2 L2 c2] 25))) (Ext.alloc _ (.cells #[.bool false, .slice none 0 0, .slice none 0 0] 27))); simpa only [World.size_alloc] using h5
  have bxm : BK w0 (w.heap.size + 1) 25 #[.bool false, .slice A2 L2 c2] := by rw [hw0]; have h5 := (BK.ext (BK.new (w.alloc (.cells #[.bool s1, .slice A1 L1 c1] 25)) #[.bool false, .slice A2 L2 c2] 25) (Ext.alloc _ (.cells #[.bool false, .slice none 0 0, .slice none 0 0] 27))); simpa only [World.size_alloc] using h5
  have bxr : BK w0 (w.heap.size + 1 + 1) 27 #[.bool false, .slice none 0 0, .slice none 0 0] := by rw [hw0]; have h5 := (BK.new ((w.alloc (.cells #[.bool s1, .slice A1 L1 c1] 25)).alloc (.cells #[.bool false, .slice A2 L2 c2] 25)) #[.bool false, .slice none 0 0, .slice none 0 0] 27); simpa only [World.size_alloc] using h5
  have hszw0 : w0.heap.size = w.heap.size + 1 + 1 + 1 := by rw [hw0]; simp only [World.size_alloc]
  have xw0 : Ext w w0 := by rw [hw0]; exact (((Ext.alloc _ _).trans (Ext.alloc _ _)).trans (Ext.alloc _ _))
  clear hw0
  have kn_0 := bxn.c 0 (.bool s1) rfl
  have kn_1 := bxn.c 1 (.slice A1 L1 c1) rfl
  have km_0 := bxm.c 0 (.bool false) rfl
  have km_1 := bxm.c 1 (.slice A2 L2 c2) rfl
  have kr_0 := bxr.c 0 (.bool false) rfl
  have kr_1 := bxr.c 1 (.slice none 0 0) rfl
  have kr_2 := bxr.c 2 (.slice none 0 0) rfl
  go_wp2_with fail
  clear kn_0 kn_1 km_0 km_1 kr_0 kr_1 kr_2
  refine (HGC.out _ (by with_reducible repeat' first | exact Ext.refl _ | assumption | apply Ext.alloc_r | apply Ext.drew_r | apply Ext.drewN_r | refine Ext.trans ?_ ‹Ext _ _›)).mono ?_
  rintro e w1 ⟨si, Ai, ci, Li, rfl, i, x1⟩
  have szw1 : w0.heap.size ≤ w1.heap.size := x1.size
  replace bxn := bxn.ext x1
  replace bxm := bxm.ext x1
  replace bxr := bxr.ext x1
  have HI := Lib.hid i
  clear i
  have kn_0 := bxn.c 0 (.bool s1) rfl
  have kn_1 := bxn.c 1 (.slice A1 L1 c1) rfl
  have km_0 := bxm.c 0 (.bool false) rfl
  have km_1 := bxm.c 1 (.slice A2 L2 c2) rfl
  have kr_0 := bxr.c 0 (.bool false) rfl
  have kr_1 := bxr.c 1 (.slice none 0 0) rfl
  have kr_2 := bxr.c 2 (.slice none 0 0) rfl
  have t1n_0 := fun (o0 : Obj) => ((Ext.alloc w1 o0).cell (bxn.c 0 (.bool s1) rfl))
  have t1n_1 := fun (o0 : Obj) => ((Ext.alloc w1 o0).cell (bxn.c 1 (.slice A1 L1 c1) rfl))
  have t1m_0 := fun (o0 : Obj) => ((Ext.alloc w1 o0).cell (bxm.c 0 (.bool false) rfl))
  have t1m_1 := fun (o0 : Obj) => ((Ext.alloc w1 o0).cell (bxm.c 1 (.slice A2 L2 c2) rfl))
  have t1r_0 := fun (o0 : Obj) => ((Ext.alloc w1 o0).cell (bxr.c 0 (.bool false) rfl))
  have t1r_1 := fun (o0 : Obj) => ((Ext.alloc w1 o0).cell (bxr.c 1 (.slice none 0 0) rfl))
  have t1r_2 := fun (o0 : Obj) => ((Ext.alloc w1 o0).cell (bxr.c 2 (.slice none 0 0) rfl))
  go_wp2_with fail
  clear kn_0 kn_1 km_0 km_1 kr_0 kr_1 kr_2 t1n_0 t1n_1 t1m_0 t1m_1 t1r_0 t1r_1 t1r_2
  obtain ⟨w2, hw⟩ : ∃ z : World, z = (w1.alloc (.cells #[.bool si, .slice Ai Li ci] 25)) := ⟨_, rfl⟩
  rw [← hw]
  have x2 : Ext w1 w2 := by rw [hw]; exact (Ext.alloc _ _)
  replace bxn := bxn.ext x2
  replace bxm := bxm.ext x2
  replace bxr := bxr.ext x2
  have bxg : BK w2 (w1.heap.size) 25 #[.bool si, .slice Ai Li ci] := by rw [hw]; have h5 := (BK.new w1 #[.bool si, .slice Ai Li ci] 25); simpa only [World.size_alloc] using h5
  have szw2 : w2.heap.size = w1.heap.size + 1 := by rw [hw]; simp only [World.size_alloc]
  clear hw
  replace i := HI.out.ext x2
  clear HI
  refine (HQ1.out _ _ _ _ _ (i.zv.ext (by with_reducible repeat' first | exact Ext.refl _ | assumption | apply Ext.alloc_r | apply Ext.drew_r | apply Ext.drewN_r | refine Ext.trans ?_ ‹Ext _ _›)) (by with_reducible repeat' first | exact Ext.refl _ | assumption | apply Ext.alloc_r | apply Ext.drew_r | apply Ext.drewN_r | refine Ext.trans ?_ ‹Ext _ _›)).mono ?_
  rintro e w3 ⟨saj, Aaj, caj, Laj, sbj, Abj, cbj, Lbj, rfl, ja, jb, x3⟩
  have szw3 : w2.heap.size ≤ w3.heap.size := x3.size
  replace bxn := bxn.ext x3
  replace bxm := bxm.ext x3
  replace bxr := bxr.ext x3
  replace bxg := bxg.ext x3
  have HI := Lib.hid i
  have HJ := Lib.hid ja
  clear i ja jb
  have kn_0 := bxn.c 0 (.bool s1) rfl
  have fn_0 := bxn.f 0
  have kn_1 := bxn.c 1 (.slice A1 L1 c1) rfl
  have fn_1 := bxn.f 1
  have km_0 := bxm.c 0 (.bool false) rfl
  have km_1 := bxm.c 1 (.slice A2 L2 c2) rfl
  have kr_0 := bxr.c 0 (.bool false) rfl
  have kr_1 := bxr.c 1 (.slice none 0 0) rfl
  have kr_2 := bxr.c 2 (.slice none 0 0) rfl
  have kg_0 := bxg.c 0 (.bool si) rfl
  have kg_1 := bxg.c 1 (.slice Ai Li ci) rfl
  go_wp2_with fail
  clear kn_0 fn_0 kn_1 fn_1 km_0 km_1 kr_0 kr_1 kr_2 kg_0 kg_1
  replace i := HI.out
  replace ja := HJ.out
  obtain ⟨w4, hw⟩ : ∃ z : World, z = ((w3.setCell ⟨w.heap.size, 0, none⟩ (.bool saj)).setCell ⟨w.heap.size, 1, none⟩ (.slice Aaj Laj caj)) := ⟨_, rfl⟩
  rw [← hw]
  have kw4 : Kept w3 w4 := by rw [hw]; exact (Kept.set_ (Kept.set_ (Kept.refl _) bxn.isBox plain_int) (IsBox.set_ bxn.isBox) plain_int)
  have nbn : BK w4 (w.heap.size) 25 #[.bool saj, .slice Aaj Laj caj] := by rw [hw]; exact (BK.set (i := 1) (u := .slice Aaj Laj caj) (vs' := #[.bool saj, .slice Aaj Laj caj]) (BK.set (i := 0) (u := .bool saj) (vs' := #[.bool saj, .slice A1 L1 c1]) bxn rfl) rfl)
  have nbm : BK w4 (w.heap.size + 1) 25 #[.bool false, .slice A2 L2 c2] := by rw [hw]; exact (BK.far (BK.far bxm (show w.heap.size + 1 ≠ w.heap.size by omega) 0 _) (show w.heap.size + 1 ≠ w.heap.size by omega) 1 _)
  have nbr : BK w4 (w.heap.size + 1 + 1) 27 #[.bool false, .slice none 0 0, .slice none 0 0] := by rw [hw]; exact (BK.far (BK.far bxr (show w.heap.size + 1 + 1 ≠ w.heap.size by omega) 0 _) (show w.heap.size + 1 + 1 ≠ w.heap.size by omega) 1 _)
  have nbg : BK w4 (w1.heap.size) 25 #[.bool si, .slice Ai Li ci] := by rw [hw]; exact (BK.far (BK.far bxg (show w1.heap.size ≠ w.heap.size by omega) 0 _) (show w1.heap.size ≠ w.heap.size by omega) 1 _)
  have x4 : Ext w w4 := by rw [hw]; have hxp : Ext w w3 := (by with_reducible repeat' first | exact Ext.refl _ | assumption | apply Ext.alloc_r | apply Ext.drew_r | apply Ext.drewN_r | refine Ext.trans ?_ ‹Ext _ _›); exact (Ext.set_ (Ext.set_ hxp (show _ ≤ w.heap.size by omega)) (show _ ≤ w.heap.size by omega))
  clear bxn
  clear bxm
  clear bxr
  clear bxg
  have bxn := nbn
  clear nbn
  have bxm := nbm
  clear nbm
  have bxr := nbr
  clear nbr
  have bxg := nbg
  clear nbg
  have szw4 : w4.heap.size = w3.heap.size := by rw [hw]; simp
  replace i := (i.ext (by with_reducible repeat' first | exact Ext.refl _ | assumption | apply Ext.alloc_r | apply Ext.drew_r | apply Ext.drewN_r | refine Ext.trans ?_ ‹Ext _ _›)).kept kw4
  replace ja := (ja.ext (by with_reducible repeat' first | exact Ext.refl _ | assumption | apply Ext.alloc_r | apply Ext.drew_r | apply Ext.drewN_r | refine Ext.trans ?_ ‹Ext _ _›)).kept kw4
  clear hw kw4
  clear HI HJ
  refine (HQ2.out _ _ _ _ _ (i.zv.ext (by with_reducible repeat' first | exact Ext.refl _ | assumption | apply Ext.alloc_r | apply Ext.drew_r | apply Ext.drewN_r | refine Ext.trans ?_ ‹Ext _ _›)) (by with_reducible repeat' first | exact Ext.refl _ | assumption | apply Ext.alloc_r | apply Ext.drew_r | apply Ext.drewN_r | refine Ext.trans ?_ ‹Ext _ _›)).mono ?_
  rintro e w5 ⟨sak, Aak, cak, Lak, sbk, Abk, cbk, Lbk, rfl, ka, kb, x5⟩
  have szw5 : w4.heap.size ≤ w5.heap.size := x5.size
  replace bxn := bxn.ext x5
  replace bxm := bxm.ext x5
  replace bxr := bxr.ext x5
  replace bxg := bxg.ext x5
  obtain rfl : sak = false := by rw [ka.sign]; simp
  have HJ := Lib.hid ja
  have HK := Lib.hid ka
  clear i ja ka kb HGC HQ1 HQ2
  have kn_0 := bxn.c 0 (.bool saj) rfl
  have kn_1 := bxn.c 1 (.slice Aaj Laj caj) rfl
  have km_0 := bxm.c 0 (.bool false) rfl
  have fm_0 := bxm.f 0
  have km_1 := bxm.c 1 (.slice A2 L2 c2) rfl
  have fm_1 := bxm.f 1
  have kr_0 := bxr.c 0 (.bool false) rfl
  have fr_0 := bxr.f 0
  have kr_1 := bxr.c 1 (.slice none 0 0) rfl
  have fr_1 := bxr.f 1
  have kr_2 := bxr.c 2 (.slice none 0 0) rfl
  have fr_2 := bxr.f 2
  have kg_0 := bxg.c 0 (.bool si) rfl
  have kg_1 := bxg.c 1 (.slice Ai Li ci) rfl
  go_wp2_with fail
  clear kn_0 kn_1 km_0 fm_0 km_1 fm_1 kr_0 fr_0 kr_1 fr_1 kr_2 fr_2 kg_0 kg_1
  replace ja := HJ.out
  replace ka := HK.out
  clear HJ HK
  obtain ⟨w6, hw⟩ : ∃ z : World, z = (((((w5.setCell ⟨w.heap.size + 1, 0, none⟩ (.bool false)).setCell ⟨w.heap.size + 1, 1, none⟩ (.slice Aak Lak cak)).setCell ⟨w.heap.size + 1 + 1, 0, none⟩ (.bool saj)).setCell ⟨w.heap.size + 1 + 1, 1, none⟩ (.slice Aaj Laj caj)).setCell ⟨w.heap.size + 1 + 1, 2, none⟩ (.slice Aak Lak cak)) := ⟨_, rfl⟩
  rw [← hw]
  have kw6 : Kept w5 w6 := by rw [hw]; exact (Kept.set_ (Kept.set_ (Kept.set_ (Kept.set_ (Kept.set_ (Kept.refl _) bxm.isBox plain_int) (IsBox.set_ bxm.isBox) plain_int) (IsBox.set_ (IsBox.set_ bxr.isBox)) plain_rat) (IsBox.set_ (IsBox.set_ (IsBox.set_ bxr.isBox))) plain_rat) (IsBox.set_ (IsBox.set_ (IsBox.set_ (IsBox.set_ bxr.isBox)))) plain_rat)
  have nbn : BK w6 (w.heap.size) 25 #[.bool saj, .slice Aaj Laj caj] := by rw [hw]; exact (BK.far (BK.far (BK.far (BK.far (BK.far bxn (show w.heap.size ≠ w.heap.size + 1 by omega) 0 _) (show w.heap.size ≠ w.heap.size + 1 by omega) 1 _) (show w.heap.size ≠ w.heap.size + 1 + 1 by omega) 0 _) (show w.heap.size ≠ w.heap.size + 1 + 1 by omega) 1 _) (show w.heap.size ≠ w.heap.size + 1 + 1 by omega) 2 _)
  have nbm : BK w6 (w.heap.size + 1) 25 #[.bool false, .slice Aak Lak cak] := by rw [hw]; exact (BK.far (BK.far (BK.far (BK.set (i := 1) (u := .slice Aak Lak cak) (vs' := #[.bool false, .slice Aak Lak cak]) (BK.set (i := 0) (u := .bool false) (vs' := #[.bool false, .slice A2 L2 c2]) bxm rfl) rfl) (show w.heap.size + 1 ≠ w.heap.size + 1 + 1 by omega) 0 _) (show w.heap.size + 1 ≠ w.heap.size + 1 + 1 by omega) 1 _) (show w.heap.size + 1 ≠ w.heap.size + 1 + 1 by omega) 2 _)
  have nbr : BK w6 (w.heap.size + 1 + 1) 27 #[.bool saj, .slice Aaj Laj caj, .slice Aak Lak cak] := by rw [hw]; exact (BK.set (i := 2) (u := .slice Aak Lak cak) (vs' := #[.bool saj, .slice Aaj Laj caj, .slice Aak Lak cak]) (BK.set (i := 1) (u := .slice Aaj Laj caj) (vs' := #[.bool saj, .slice Aaj Laj caj, .slice none 0 0]) (BK.set (i := 0) (u := .bool saj) (vs' := #[.bool saj, .slice none 0 0, .slice none 0 0]) (BK.far (BK.far bxr (show w.heap.size + 1 + 1 ≠ w.heap.size + 1 by omega) 0 _) (show w.heap.size + 1 + 1 ≠ w.heap.size + 1 by omega) 1 _) rfl) rfl) rfl)
  have nbg : BK w6 (w1.heap.size) 25 #[.bool si, .slice Ai Li ci] := by rw [hw]; exact (BK.far (BK.far (BK.far (BK.far (BK.far bxg (show w1.heap.size ≠ w.heap.size + 1 by omega) 0 _) (show w1.heap.size ≠ w.heap.size + 1 by omega) 1 _) (show w1.heap.size ≠ w.heap.size + 1 + 1 by omega) 0 _) (show w1.heap.size ≠ w.heap.size + 1 + 1 by omega) 1 _) (show w1.heap.size ≠ w.heap.size + 1 + 1 by omega) 2 _)
  have x6 : Ext w w6 := by rw [hw]; have hxp : Ext w w5 := (by with_reducible repeat' first | exact Ext.refl _ | assumption | apply Ext.alloc_r | apply Ext.drew_r | apply Ext.drewN_r | refine Ext.trans ?_ ‹Ext _ _›); exact (Ext.set_ (Ext.set_ (Ext.set_ (Ext.set_ (Ext.set_ hxp (show _ ≤ w.heap.size + 1 by omega)) (show _ ≤ w.heap.size + 1 by omega)) (show _ ≤ w.heap.size + 1 + 1 by omega)) (show _ ≤ w.heap.size + 1 + 1 by omega)) (show _ ≤ w.heap.size + 1 + 1 by omega))
  clear bxn
  clear bxm
  clear bxr
  clear bxg
  have bxn := nbn
  clear nbn
  have bxm := nbm
  clear nbm
  have bxr := nbr
  clear nbr
  have bxg := nbg
  clear nbg
  have szw6 : w6.heap.size = w5.heap.size := by rw [hw]; simp
  replace ja := (ja.ext (by with_reducible repeat' first | exact Ext.refl _ | assumption | apply Ext.alloc_r | apply Ext.drew_r | apply Ext.drewN_r | refine Ext.trans ?_ ‹Ext _ _›)).kept kw6
  replace ka := (ka.ext (by with_reducible repeat' first | exact Ext.refl _ | assumption | apply Ext.alloc_r | apply Ext.drew_r | apply Ext.drewN_r | refine Ext.trans ?_ ‹Ext _ _›)).kept kw6
  clear hw kw6
  have HRO : Hid (RO w6 w.heap.size saj Aaj caj Laj Aak cak Lak N q) := by
    refine ⟨ja.mono (by omega), Own.mono (by have h5 := ka.no; rwa [Int.natAbs_natCast] at h5) (by omega), by rw [ka.len, Int.natAbs_natCast], HD.out.1, HD.out.2⟩
  clear ja ka HD
  have kr_0 := bxr.c 0 (.bool saj) rfl
  have kr_1 := bxr.c 1 (.slice Aaj Laj caj) rfl
  have kr_2 := bxr.c 2 (.slice Aak Lak cak) rfl
  refine bodyPost_ret (v := .agg #[.bool saj, .slice Aaj Laj caj, .slice Aak Lak cak]) (by simp [results, Tryz.results82, go_sem, kr_0, kr_1, kr_2]) rfl ?_
  exact ⟨_, _, _, _, _, _, _, rfl, HRO.out, x6⟩
set_option maxHeartbeats 4000000 in
set_option maxRecDepth 100000 in
theorem rfrom_r {w : World} {s1 : Bool} {A1 : Option Addr} {c1 L1 N : Nat} {x : Int} (h1 : ZV w s1 A1 c1 L1 x) (b1 : dl x.natAbs ≤ N) (hN : 1 ≤ N) (hM : N ≤ 1000000) :
    Calls Tryz.prog 71 #[.agg #[.bool s1, .slice A1 L1 c1]] w (RetR w N (x : Rat)) := by
  go_enter Tryz.func71, Tryz.ntmps71
  go_wp2_with fail
  obtain ⟨w0, hw0⟩ : ∃ z : World, z = ((w.alloc (.cells #[.bool s1, .slice A1 L1 c1] 25)).alloc (.cells #[.bool false, .slice none 0 0, .slice none 0 0] 27)) := ⟨_, rfl⟩
  rw [← hw0]
  have bxa : BK w0 (w.heap.size) 25 #[.bool s1, .slice A1 L1 c1] := by rw [hw0]; have h5 := (BK.ext (BK.new w #[.bool s1, .slice A1 L1 c1] 25) (Ext.alloc _ (.cells #[.bool false, .slice none 0 0, .slice none 0 0] 27))); simpa only [World.size_alloc] using h5
  have bxr : BK w0 (w.heap.size + 1) 27 #[.bool false, .slice none 0 0, .slice none 0 0] := by rw [hw0]; have h5 := (BK.new (w.alloc (.cells #[.bool s1, .slice A1 L1 c1] 25)) #[.bool false, .slice none 0 0, .slice none 0 0] 27); simpa only [World.size_alloc] using h5
  have hszw0 : w0.heap.size = w.heap.size + 1 + 1 := by rw [hw0]; simp only [World.size_alloc]
  have xw0 : Ext w w0 := by rw [hw0]; exact ((Ext.alloc _ _).trans (Ext.alloc _ _))
  clear hw0
  refine (znormal_z (h1.ext (by with_reducible repeat' first | exact Ext.refl _ | assumption | apply Ext.alloc_r | apply Ext.drew_r | apply Ext.drewN_r | refine Ext.trans ?_ ‹Ext _ _›)) (by omega)).mono ?_
  rintro e w1 ⟨si, Ai, ci, Li, rfl, i, x1⟩
  have szw1 : w0.heap.size ≤ w1.heap.size := x1.size
  replace bxa := bxa.ext x1
  replace bxr := bxr.ext x1
  have ka_0 := bxa.c 0 (.bool s1) rfl
  have ka_1 := bxa.c 1 (.slice A1 L1 c1) rfl
  have kr_0 := bxr.c 0 (.bool false) rfl
  have kr_1 := bxr.c 1 (.slice none 0 0) rfl
  have kr_2 := bxr.c 2 (.slice none 0 0) rfl
  go_wp2_with fail
  clear ka_0 ka_1 kr_0 kr_1 kr_2
  refine (of_any 1 (by omega)).mono ?_
  rintro e w2 ⟨Aj, cj, rfl, j, x2⟩
  have szw2 : w1.heap.size ≤ w2.heap.size := x2.size
  replace bxa := bxa.ext x2
  replace bxr := bxr.ext x2
  have hq : ((x : Rat)).num = x := rfl
  have hd : ((x : Rat)).den = 1 := rfl
  have HRO : Hid (RO w2 w.heap.size si Ai ci Li Aj cj (digs B32 1).length N (x : Rat)) := by
    refine ⟨(i.ext (by with_reducible repeat' first | exact Ext.refl _ | assumption | apply Ext.alloc_r | apply Ext.drew_r | apply Ext.drewN_r | refine Ext.trans ?_ ‹Ext _ _›)).mono (by omega), Own.mono j (by omega), rfl, b1, by rw [hd, dl_one]; exact hN⟩
  clear i j hq hd
  generalize (digs B32 1).length = K at *
  have ka_0 := bxa.c 0 (.bool s1) rfl
  have ka_1 := bxa.c 1 (.slice A1 L1 c1) rfl
  have kr_0 := bxr.c 0 (.bool false) rfl
  have fr_0 := bxr.f 0
  have kr_1 := bxr.c 1 (.slice none 0 0) rfl
  have fr_1 := bxr.f 1
  have kr_2 := bxr.c 2 (.slice none 0 0) rfl
  have fr_2 := bxr.f 2
  go_wp2_with fail
  clear ka_0 ka_1 kr_0 fr_0 kr_1 fr_1 kr_2 fr_2
  have HR2 := HRO.out
  obtain ⟨w3, hw⟩ : ∃ z : World, z = (((w2.setCell ⟨w.heap.size + 1, 0, none⟩ (.bool si)).setCell ⟨w.heap.size + 1, 1, none⟩ (.slice Ai Li ci)).setCell ⟨w.heap.size + 1, 2, none⟩ (.slice Aj K cj)) := ⟨_, rfl⟩
  rw [← hw]
  have kw3 : Kept w2 w3 := by rw [hw]; exact (Kept.set_ (Kept.set_ (Kept.set_ (Kept.refl _) bxr.isBox plain_rat) (IsBox.set_ bxr.isBox) plain_rat) (IsBox.set_ (IsBox.set_ bxr.isBox)) plain_rat)
  have nba : BK w3 (w.heap.size) 25 #[.bool s1, .slice A1 L1 c1] := by rw [hw]; exact (BK.far (BK.far (BK.far bxa (show w.heap.size ≠ w.heap.size + 1 by omega) 0 _) (show w.heap.size ≠ w.heap.size + 1 by omega) 1 _) (show w.heap.size ≠ w.heap.size + 1 by omega) 2 _)
  have nbr : BK w3 (w.heap.size + 1) 27 #[.bool si, .slice Ai Li ci, .slice Aj K cj] := by rw [hw]; exact (BK.set (i := 2) (u := .slice Aj K cj) (vs' := #[.bool si, .slice Ai Li ci, .slice Aj K cj]) (BK.set (i := 1) (u := .slice Ai Li ci) (vs' := #[.bool si, .slice Ai Li ci, .slice none 0 0]) (BK.set (i := 0) (u := .bool si) (vs' := #[.bool si, .slice none 0 0, .slice none 0 0]) bxr rfl) rfl) rfl)
  have x3 : Ext w w3 := by rw [hw]; have hxp : Ext w w2 := (by with_reducible repeat' first | exact Ext.refl _ | assumption | apply Ext.alloc_r | apply Ext.drew_r | apply Ext.drewN_r | refine Ext.trans ?_ ‹Ext _ _›); exact (Ext.set_ (Ext.set_ (Ext.set_ hxp (show _ ≤ w.heap.size + 1 by omega)) (show _ ≤ w.heap.size + 1 by omega)) (show _ ≤ w.heap.size + 1 by omega))
  clear bxa
  clear bxr
  have bxa := nba
  clear nba
  have bxr := nbr
  clear nbr
  have szw3 : w3.heap.size = w2.heap.size := by rw [hw]; simp
  replace HR2 := (HR2.ext (by with_reducible repeat' first | exact Ext.refl _ | assumption | apply Ext.alloc_r | apply Ext.drew_r | apply Ext.drewN_r | refine Ext.trans ?_ ‹Ext _ _›)).kept kw3
  clear hw kw3
  clear HRO
  have HRO := Lib.hid HR2
  clear HR2
  have kr_0 := bxr.c 0 (.bool si) rfl
  have kr_1 := bxr.c 1 (.slice Ai Li ci) rfl
  have kr_2 := bxr.c 2 (.slice Aj K cj) rfl
  refine bodyPost_ret (v := .agg #[.bool si, .slice Ai Li ci, .slice Aj K cj]) (by simp [results, Tryz.results71, go_sem, kr_0, kr_1, kr_2]) rfl ?_
  exact ⟨_, _, _, _, _, _, _, rfl, HRO.out, x3⟩
end Go.Proofs.YtehhkeenjlpikaaGreat
