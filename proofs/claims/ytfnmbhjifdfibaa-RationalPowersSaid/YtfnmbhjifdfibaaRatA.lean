/- Fractions: plain laws of Lean's Rat, and what an argument and a result of type rational.Rat are. -/
import Derived.Test.YtfnmbhjifdfibaaDivD
import Derived.Test.YtfnmbhjifdfibaaLaw2c
import Derived.Test.YtfnmbhjifdfibaaLaw2b
namespace Go.Proofs.Ytfnmbhjifdfibaa
open Go.RowKit
/-- The order of two fractions: -1, 0 or 1. -/
def cmpQ (a b : Rat) : Int := if a < b then -1 else if b < a then 1 else 0
theorem rat_num_mk {x : Int} {y : Nat} (hy : 0 < y) : (mkRat x y).num = x.tdiv (Nat.gcd x.natAbs y : Nat) := by
  rw [Rat.num_mkRat, if_neg (by omega), Nat.gcd_comm]
  exact (Int.tdiv_eq_ediv_of_dvd (Int.ofNat_dvd_left.2 (Nat.gcd_dvd_left _ _))).symm
theorem rat_den_mk {x : Int} {y : Nat} (hy : 0 < y) : (mkRat x y).den = y / Nat.gcd x.natAbs y := by
  rw [Rat.den_mkRat, if_neg (by omega), Nat.gcd_comm]
theorem rat_num_le {x : Int} {y : Nat} (hy : 0 < y) : (mkRat x y).num.natAbs ≤ x.natAbs := by
  rw [rat_num_mk hy, Int.natAbs_tdiv]; exact Nat.div_le_self _ _
theorem rat_den_le {x : Int} {y : Nat} (hy : 0 < y) : (mkRat x y).den ≤ y := by
  rw [rat_den_mk hy]; exact Nat.div_le_self _ _
theorem rat_sign {x : Int} {y : Nat} (hy : 0 < y) : (mkRat x y).num.sign = x.sign := by
  have hg : 0 < Nat.gcd x.natAbs y := Nat.gcd_pos_of_pos_right _ hy
  have hd : ((Nat.gcd x.natAbs y : Nat) : Int) ∣ x := Int.ofNat_dvd_left.2 (Nat.gcd_dvd_left _ _)
  rw [rat_num_mk hy]
  obtain ⟨k, hk⟩ := hd
  have h1 : x.tdiv (Nat.gcd x.natAbs y : Nat) = k := by
    rw [Int.tdiv_eq_ediv_of_dvd (Int.ofNat_dvd_left.2 (Nat.gcd_dvd_left _ _))]
    conv => lhs; lhs; rw [hk]
    exact Int.mul_ediv_cancel_left _ (by omega)
  rw [h1]
  have h2 : x.sign = ((Nat.gcd x.natAbs y : Nat) : Int).sign * k.sign := by rw [← Int.sign_mul, ← hk]
  rw [h2, Int.sign_eq_one_of_pos (by omega : (0:Int) < ((Nat.gcd x.natAbs y : Nat) : Int)), Int.one_mul]
theorem rat_pos {x : Int} {y : Nat} (hy : 0 < y) : 0 < mkRat x y ↔ 0 < x := by
  rw [Rat.lt_iff]
  have h := rat_sign (x := x) hy
  show (0 : Int) * _ < _ * (1 : Int) ↔ _
  rw [Int.zero_mul, Int.mul_one, ← Int.sign_eq_one_iff_pos, h, Int.sign_eq_one_iff_pos]
theorem rat_lt {x z : Int} {y t : Nat} (hy : 0 < y) (ht : 0 < t) : mkRat x y < mkRat z t ↔ x * t < z * y := by
  rw [Rat.lt_iff_sub_pos, Rat.sub_eq_add_neg, Rat.neg_mkRat, Rat.mkRat_add_mkRat _ _ (by omega) (by omega), rat_pos (Nat.mul_pos ht hy), Int.neg_mul]
  omega
theorem cmpQ_mk {x z : Int} {y t : Nat} (hy : 0 < y) (ht : 0 < t) : cmpZ (x * t) (z * y) = cmpQ (mkRat x y) (mkRat z t) := by
  unfold cmpZ cmpQ
  simp only [rat_lt hy ht, rat_lt ht hy]
theorem rat_sub_mk {x z : Int} {y t : Nat} (hy : 0 < y) (ht : 0 < t) : mkRat x y - mkRat z t = mkRat (x * t - z * y) (y * t) := by
  rw [Rat.sub_eq_add_neg, Rat.neg_mkRat, Rat.mkRat_add_mkRat _ _ (by omega) (by omega), Int.neg_mul]; rfl
theorem rat_eq0 {x : Int} {y : Nat} (hy : 0 < y) : mkRat x y = 0 ↔ x = 0 := by
  rw [← Rat.zero_mkRat y, Rat.mkRat_eq_iff (by omega) (by omega)]
  constructor
  · intro h; rw [Int.zero_mul] at h
    rcases Int.mul_eq_zero.1 h with h | h
    · exact h
    · omega
  · intro h; rw [h]
/-- The quotient of two fractions by their parts. -/
theorem rat_inv_pos {z : Int} {t : Nat} (hz : 0 < z) : (mkRat z t)⁻¹ = mkRat t z.natAbs := by
  rw [← Rat.divInt_ofNat, Rat.inv_divInt]
  have : z = (z.natAbs : Nat) := by omega
  conv => lhs; rw [this]
  exact Rat.divInt_ofNat ..
theorem rat_div_pos {x z : Int} {y t : Nat} (hz : 0 < z) : mkRat x y / mkRat z t = mkRat (x * t) (y * z.natAbs) := by
  rw [Rat.div_def, rat_inv_pos hz, Rat.mkRat_mul_mkRat]
theorem rat_div_neg {x z : Int} {y t : Nat} (hz : z < 0) : mkRat x y / mkRat z t = mkRat (-(x * t)) (y * z.natAbs) := by
  have h := rat_div_pos (x := x) (y := y) (t := t) (z := -z) (by omega)
  have h3 : (mkRat (-z) t)⁻¹ = -(mkRat z t)⁻¹ := by
    rw [← Rat.divInt_ofNat, ← Rat.divInt_ofNat, Rat.inv_divInt, Rat.inv_divInt, Rat.divInt_neg', Rat.neg_divInt]
  rw [Int.natAbs_neg, Rat.div_def, h3, Rat.mul_neg, ← Rat.div_def] at h
  rw [← Rat.neg_mkRat, ← h, Rat.neg_neg]
theorem rat_div_mk {x z : Int} {y t : Nat} (hy : 0 < y) (hz : z ≠ 0) : mkRat x y / mkRat z t = mkRat (x * t * ((y : Int) * z).sign) ((y : Int) * z).natAbs := by
  have h1 : ((y : Int) * z).natAbs = y * z.natAbs := by rw [Int.natAbs_mul, Int.natAbs_natCast]
  have h2 : ((y : Int) * z).sign = z.sign := by rw [Int.sign_mul, Int.sign_eq_one_of_pos (by omega : (0 : Int) < (y : Int)), Int.one_mul]
  rw [h1, h2]
  rcases Int.lt_or_gt_of_ne hz with h | h
  · rw [rat_div_neg h, Int.sign_eq_neg_one_of_neg h, Int.mul_neg, Int.mul_one]
  · rw [rat_div_pos h, Int.sign_eq_one_of_pos h, Int.mul_one]
/-- The absolute value. -/
def absQ (q : Rat) : Rat := if q.num < 0 then -q else q
theorem absQ_mk {x : Int} {y : Nat} (hy : 0 < y) : absQ (mkRat x y) = mkRat (x.natAbs : Int) y := by
  have h := rat_sign (x := x) hy
  unfold absQ
  by_cases hx : x < 0
  · rw [Int.sign_eq_neg_one_of_neg hx] at h
    rw [if_pos (Int.sign_eq_neg_one_iff_neg.1 h), Rat.neg_mkRat, show -x = (x.natAbs : Int) by omega]
  · rw [if_neg, show (x.natAbs : Int) = x by omega]
    intro h2
    rw [Int.sign_eq_neg_one_of_neg h2] at h
    exact hx (Int.sign_eq_neg_one_iff_neg.1 h.symm)
theorem cmpQ_bd (a b : Rat) : -1 ≤ cmpQ a b ∧ cmpQ a b ≤ 1 := by unfold cmpQ; repeat' split <;> omega
theorem cmpQ_eq0 (a b : Rat) : (cmpQ a b == 0) = (a == b) := by
  unfold cmpQ
  by_cases h : a < b
  · have : a ≠ b := fun e => by rw [e] at h; exact Rat.lt_irrefl h
    rw [if_pos h, beq_eq_false_iff_ne.2 this]; rfl
  · by_cases h2 : b < a
    · have : a ≠ b := fun e => by rw [e] at h2; exact Rat.lt_irrefl h2
      rw [if_neg h, if_pos h2, beq_eq_false_iff_ne.2 this]; rfl
    · have : a = b := Rat.le_antisymm (Rat.not_lt.1 h2) (Rat.not_lt.1 h)
      rw [if_neg h, if_neg h2, this]; simp
theorem sgnQ_sub (a b : Rat) : (a - b).num.sign = cmpQ a b := by
  have h1 : 0 < (a - b) ↔ b < a := (Rat.lt_iff_sub_pos _ _).symm
  have h2 : (a - b) < 0 ↔ a < b := by
    rw [Rat.lt_iff_sub_pos a b, Rat.lt_iff_sub_pos (a - b) 0]
    have : 0 - (a - b) = b - a := by rw [Rat.sub_eq_add_neg, Rat.zero_add, Rat.neg_sub]
    rw [this]
  have e1 : 0 < (a - b) ↔ 0 < (a - b).num := by rw [Rat.lt_iff]; show (0 : Int) * _ < _ * (1 : Int) ↔ _; rw [Int.zero_mul, Int.mul_one]
  have e2 : (a - b) < 0 ↔ (a - b).num < 0 := by rw [Rat.lt_iff]; show _ * (1 : Int) < (0 : Int) * _ ↔ _; rw [Int.zero_mul, Int.mul_one]
  unfold cmpQ
  by_cases h : a < b
  · rw [if_pos h]; exact Int.sign_eq_neg_one_of_neg (e2.1 (h2.2 h))
  · rw [if_neg h]
    by_cases h' : b < a
    · rw [if_pos h']; exact Int.sign_eq_one_of_pos (e1.1 (h1.2 h'))
    · rw [if_neg h']
      have k1 : ¬ 0 < (a - b).num := fun k => h' (h1.1 (e1.2 k))
      have k2 : ¬ (a - b).num < 0 := fun k => h (h2.1 (e2.2 k))
      have : (a - b).num = 0 := by omega
      rw [this]; rfl
theorem cmpQ_add (a b c : Rat) : cmpQ (a + c) (b + c) = cmpQ a b := by
  rw [← sgnQ_sub, ← sgnQ_sub]
  congr 2
  rw [Rat.sub_eq_add_neg, Rat.neg_add, Rat.sub_eq_add_neg, Rat.add_assoc, ← Rat.add_assoc c, Rat.add_comm c, Rat.add_assoc, Rat.add_neg_cancel, Rat.add_zero]
theorem num_sign_mul (a b : Rat) : (a * b).num.sign = a.num.sign * b.num.sign := by
  have h := Rat.mkRat_mul_mkRat a.num b.num a.den b.den
  rw [Rat.mkRat_self, Rat.mkRat_self] at h
  rw [h, rat_sign (Nat.mul_pos a.den_pos b.den_pos), Int.sign_mul]
theorem cmpQ_mul (a b c : Rat) : cmpQ (a * c) (b * c) = cmpQ a b * c.num.sign := by
  rw [← sgnQ_sub, ← sgnQ_sub, ← num_sign_mul]
  congr 2
  rw [Rat.sub_eq_add_neg, Rat.sub_eq_add_neg, Rat.add_mul, Rat.neg_mul]
/-- An argument: a fraction by two numbers of at most N digits, not necessarily in lowest terms; with denominator 0 it is 0. -/
structure RV (w : World) (s : Bool) (A : Option Addr) (c L : Nat) (B : Option Addr) (d M N : Nat) (q : Rat) : Prop where
  ex : ∃ (x : Int) (y : Nat), ZV w s A c L x ∧ NV w B d M y ∧ q = mkRat x y ∧ dl x.natAbs ≤ N ∧ dl y ≤ N
  one : 1 ≤ N
/-- A fraction in lowest terms in memory of the call's own. -/
structure RO (w : World) (g : Nat) (s : Bool) (A : Option Addr) (c L : Nat) (B : Option Addr) (d M N : Nat) (q : Rat) : Prop where
  num : ZO w g s A c L q.num
  den : NO w g B d q.den
  len : M = (digs B32 q.den).length
  dn : dl q.num.natAbs ≤ N
  dd : dl q.den ≤ N
theorem dl_one : dl 1 = 1 := dl_lit (ds := [1]) (by intro d hd; simp at hd; subst hd; unfold B32; omega) (by simp) (by simp [val])
section
variable {w w' : World} {s : Bool} {A B : Option Addr} {c d L M N g : Nat} {q : Rat}
theorem RV.ext (h : RV w s A c L B d M N q) (hx : Ext w w') : RV w' s A c L B d M N q := by
  obtain ⟨x, y, h1, h2, h3⟩ := h.ex
  exact ⟨⟨x, y, h1.ext hx, h2.ext hx, h3⟩, h.one⟩
theorem RO.ext (h : RO w g s A c L B d M N q) (hx : Ext w w') : RO w' g s A c L B d M N q := ⟨h.num.ext hx, h.den.ext hx, h.len, h.dn, h.dd⟩
theorem RO.mono {g' : Nat} (h : RO w g s A c L B d M N q) (hg : g' ≤ g) : RO w g' s A c L B d M N q := ⟨h.num.mono hg, Own.mono h.den hg, h.len, h.dn, h.dd⟩
theorem RO.rv (h : RO w g s A c L B d M N q) : RV w s A c L B d M N q := by
  refine ⟨⟨q.num, q.den, h.num.zv, by rw [h.len]; exact h.den.nv, (Rat.mkRat_self q).symm, h.dn, h.dd⟩, ?_⟩
  have h1 := dl_mono q.den_pos
  rw [show dl (0 + 1) = 1 from dl_one] at h1
  exact Nat.le_trans h1 h.dd
theorem RV.wide {N' : Nat} (h : RV w s A c L B d M N q) (hN : N ≤ N') : RV w s A c L B d M N' q := by
  obtain ⟨x, y, h1, h2, h3, h4, h5⟩ := h.ex
  exact ⟨⟨x, y, h1, h2, h3, by omega, by omega⟩, by have := h.one; omega⟩
theorem RO.wide {N' : Nat} (h : RO w g s A c L B d M N q) (hN : N ≤ N') : RO w g s A c L B d M N' q := ⟨h.num, h.den, h.len, Nat.le_trans h.dn hN, Nat.le_trans h.dd hN⟩
end
theorem no_zero (w : World) (g : Nat) : NO w g none 0 0 := by
  unfold NO
  rw [digs_zero]
  exact Own.none_ w g _ _
theorem zv_zero (w : World) : ZV w false none 0 0 0 := by
  have h := NO.nv (no_zero w 0)
  rw [digs_zero] at h
  exact ⟨h, (fun h => by cases h), fun _ => Int.le_refl _⟩
/-- The call returns the fraction q, of at most N digits, in lowest terms and new memory. -/
def RetR (w : World) (N : Nat) (q : Rat) (e : Ending) (w' : World) : Prop := ∃ s A c L B d M, e = .returned (.agg #[.bool s, .slice A L c, .slice B M d]) ∧ RO w' w.heap.size s A c L B d M N q ∧ Ext w w'
/-- The call returns the fraction q, of at most N digits, in lowest terms and new memory, and OK. -/
def RetRE (w : World) (N : Nat) (q : Rat) (e : Ending) (w' : World) : Prop := ∃ s A c L B d M, e = .returned (.tuple #[.agg #[.bool s, .slice A L c, .slice B M d], .int .i64 0]) ∧ RO w' w.heap.size s A c L B d M N q ∧ Ext w w'
/-- The call returns the integer n, which is not negative, in new memory. -/
def RetZP (w : World) (n : Nat) (e : Ending) (w' : World) : Prop := ∃ A c L, e = .returned (.agg #[.bool false, .slice A L c]) ∧ ZO w' w.heap.size false A c L (n : Int) ∧ Ext w w'
theorem toP {F : Nat} {args : Array Value} {w : World} {n : Nat} {x : Int} (hx : x = (n : Int)) (h : Calls Try.prog F args w (RetZ w x)) : Calls Try.prog F args w (RetZP w n) := by
  subst hx
  refine h.mono ?_
  rintro e w' ⟨s, A, c, L, rfl, hz, hxx⟩
  obtain rfl : s = false := by rw [hz.sign]; simp
  exact ⟨_, _, _, rfl, hz, hxx⟩
/-- The call returns two integers, the second positive, whose quotient is q. -/
def RetP (w : World) (N : Nat) (q : Rat) (e : Ending) (w' : World) : Prop := ∃ (x : Int) (y : Nat) (s : Bool) (A : Option Addr) (c L : Nat) (B : Option Addr) (d M : Nat), e = .returned (.tuple #[.agg #[.bool s, .slice A L c], .agg #[.bool false, .slice B M d]]) ∧ ZV w' s A c L x ∧ ZV w' false B d M (y : Int) ∧ 0 < y ∧ q = mkRat x y ∧ dl x.natAbs ≤ N ∧ dl y ≤ N ∧ Ext w w'
section
variable {w w4 ww : World} {g1 g2 : Nat} {u1 u2 u3 u4 r1 r2 r3 r4 : Value}
/-- Two result boxes of two cells each are stored. -/
theorem res2 (hww : ww = (((w4.setCell ⟨g1, 0, none⟩ r1).setCell ⟨g1, 1, none⟩ r2).setCell ⟨g2, 0, none⟩ r3).setCell ⟨g2, 1, none⟩ r4) (hne : g2 ≠ g1) (a1 : w4.cell? ⟨g1, 0, none⟩ = some u1) (a2 : w4.cell? ⟨g1, 1, none⟩ = some u2) (a3 : w4.cell? ⟨g2, 0, none⟩ = some u3) (a4 : w4.cell? ⟨g2, 1, none⟩ = some u4) :
    ww.cell? ⟨g1, 0, none⟩ = some r1 ∧ ww.cell? ⟨g1, 1, none⟩ = some r2 ∧ ww.cell? ⟨g2, 0, none⟩ = some r3 ∧ ww.cell? ⟨g2, 1, none⟩ = some r4 := by
  obtain ⟨k1, k2⟩ := res_set (r1 := r1) (r2 := r2) a1 a2
  obtain ⟨k3, k4⟩ := res_set (r1 := r3) (r2 := r4) (cell_far hne.symm (cell_far hne.symm a3) : ((w4.setCell ⟨g1, 0, none⟩ r1).setCell ⟨g1, 1, none⟩ r2).cell? ⟨g2, 0, none⟩ = _) (cell_far hne.symm (cell_far hne.symm a4))
  rw [hww]
  exact ⟨cell_far hne (cell_far hne k1), cell_far hne (cell_far hne k2), k3, k4⟩
theorem ext2 (hww : ww = (((w4.setCell ⟨g1, 0, none⟩ r1).setCell ⟨g1, 1, none⟩ r2).setCell ⟨g2, 0, none⟩ r3).setCell ⟨g2, 1, none⟩ r4) (hx : Ext w w4) (h1 : w.heap.size ≤ g1) (h2 : w.heap.size ≤ g2) : Ext w ww := by
  rw [hww]
  exact Below.setCell (Below.setCell (Below.setCell (Below.setCell hx (p := ⟨g1, 0, none⟩) h1 _) (p := ⟨g1, 1, none⟩) h1 _) (p := ⟨g2, 0, none⟩) h2 _) (p := ⟨g2, 1, none⟩) h2 _
theorem own2 {B c : Nat} {k : IntKind} {T : TypeId} {A : Option Addr} {ds : List Nat} (hww : ww = (((w4.setCell ⟨g1, 0, none⟩ r1).setCell ⟨g1, 1, none⟩ r2).setCell ⟨g2, 0, none⟩ r3).setCell ⟨g2, 1, none⟩ r4) (h : Own w4 B k T A c ds) (h1 : g1 < B) (h2 : g2 < B) : Own ww B k T A c ds := by
  rw [hww]
  exact (((h.set_far (p := ⟨_, 0, none⟩) h1 _).set_far (p := ⟨_, 1, none⟩) h1 _).set_far (p := ⟨_, 0, none⟩) h2 _).set_far (p := ⟨_, 1, none⟩) h2 _
end
/-- A box: its cells, its type, and nothing in it is frozen. -/
def BK (w : World) (g : Nat) (T : TypeId) (vs : Array Value) : Prop := w.heap[g]? = some (.cells vs T (0, 0))
section
variable {w w' : World} {g : Nat} {T : TypeId} {vs : Array Value}
theorem BK.new (w : World) (vs : Array Value) (T : TypeId) : BK (w.alloc (.cells vs T)) w.heap.size T vs := heap_alloc_new w _
theorem BK.lt (h : BK w g T vs) : g < w.heap.size := (Array.getElem?_eq_some_iff.1 h).1
theorem BK.ext (h : BK w g T vs) (hx : Ext w w') : BK w' g T vs := (Below.block hx g h.lt).trans h
theorem BK.c (h : BK w g T vs) (i : Nat) (v : Value) (hv : vs[i]? = some v) : w.cell? ⟨g, i, none⟩ = some v := by rw [cell_of_row _ _ i _ _ (0, 0) h]; exact hv
theorem BK.f (h : BK w g T vs) (i : Nat) : w.frozen? ⟨g, i, none⟩ = false := by
  simp only [World.frozen?]; rw [h]; simp
theorem BK.far (h : BK w g T vs) {g' : Nat} (hne : g ≠ g') (i : Nat) (u : Value) : BK (w.setCell ⟨g', i, none⟩ u) g T vs := (Below.heap_setCell w ⟨g', i, none⟩ u g hne).trans h
theorem BK.set {i : Nat} {u : Value} {vs' : Array Value} (h : BK w g T vs) (hv : vs.setIfInBounds i u = vs') : BK (w.setCell ⟨g, i, none⟩ u) g T vs' := by
  unfold BK at *
  subst hv
  simp only [World.setCell, Array.getElem?_modify, h, if_true, Option.map_some]
  first | rfl | simp
theorem BK.isBox (h : BK w g T vs) : IsBox w g T := ⟨vs, (0, 0), h⟩
end
theorem plain_rat : ¬ Plain 27 := by unfold Plain; decide
theorem RO.kept {w w' : World} {s : Bool} {A B : Option Addr} {c d L M N g : Nat} {q : Rat} (h : RO w g s A c L B d M N q) (hk : Kept w w') : RO w' g s A c L B d M N q := ⟨h.num.kept hk, h.den.kept hk, h.len, h.dn, h.dd⟩
end Go.Proofs.Ytfnmbhjifdfibaa
