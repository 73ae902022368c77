/- The contract of rational.between: the simplest fraction strictly between two, by its parts. -/
import Derived.Test.YtfnmbhjifdfibaaSpSimp
import Derived.Test.YtfnmbhjifdfibaaSpRatQ
import Derived.Test.YtfnmbhjifdfibaaSpRef5
import Derived.Test.YtfnmbhjifdfibaaSpDivE
import Derived.Deep.RegionHeldLaw
import Derived.Deep.LoopGhost
import Derived.Deep.QuietTactic
import Derived.BigQuiet
namespace Go.Proofs.Ytfnmbhjifdfibaa
open Go.RowKit
theorem toZ {P : Program} {f : Nat} {args : Array Value} {w : World} {x y : Int} (e : x = y) (h : Calls P f args w (RetZ w x)) : Calls P f args w (RetZ w y) := by rw [← e]; exact h
/-- An integer in new memory, in a box that may be written. -/
def PutN (w w' : World) (x : Int) (s : Value) : Prop := ∃ b sb A c L, s = .pointer (some ⟨b, 0, none⟩) ∧ w.heap.size ≤ b ∧ BW w' b 25 (.bool sb) (.slice A L c) ∧ ZO w' w.heap.size sb A c L x ∧ Ext w w'
theorem PutN.mk {w w' : World} {b : Nat} {sb : Bool} {x : Int} {A : Option Addr} {c L : Nat} (hb : w.heap.size ≤ b) (h1 : IsBox w' b 25) (h2 : w'.cell? ⟨b, 0, none⟩ = some (.bool sb)) (h3 : w'.cell? ⟨b, 1, none⟩ = some (.slice A L c)) (h4 : w'.frozen? ⟨b, 0, none⟩ = false) (h5 : w'.frozen? ⟨b, 1, none⟩ = false) (hz : ZO w' w.heap.size sb A c L x) (hx : Ext w w') : PutN w w' x (.pointer (some ⟨b, 0, none⟩)) :=
  ⟨b, sb, A, c, L, rfl, hb, ⟨h1, h2, h3, h4, h5⟩, hz, hx⟩
/-- The call of rational.between gives way to a smaller one. -/
theorem btw_rec {k n d m f : Nat} (hk : d + f ≤ k + 1) (hd : 0 < d) (hlt : n * f < m * d) (hc : ¬ (f = 0 ∨ (n / d + 1) * f < m)) :
    n / d * f ≤ m ∧ 0 < m - n / d * f ∧ (m - n / d * f) + n % d ≤ k ∧ f * (n % d) < d * (m - n / d * f) ∧ m - n / d * f ≤ f := by
  have hn := Nat.div_add_mod n d
  have hr := Nat.mod_lt n hd
  generalize n / d = q at *
  generalize n % d = r at *
  have hf : 0 < f := by rcases Nat.eq_zero_or_pos f with h | h; exact absurd (.inl h) hc; exact h
  have hm : m ≤ (q + 1) * f := Nat.le_of_not_lt (fun h => hc (.inr h))
  rw [Nat.add_mul, Nat.one_mul] at hm
  have h4 : n * f = (d * q + r) * f := by rw [hn]
  rw [Nat.add_mul] at h4
  have h3 : d * q * f = d * (q * f) := Nat.mul_assoc _ _ _
  have hqf : q * f < m := by
    rcases Nat.lt_or_ge (q * f) m with h | h
    · exact h
    · have h2 : m * d ≤ q * f * d := Nat.mul_le_mul_right d h
      have h5 : q * f * d = d * (q * f) := Nat.mul_comm _ _
      omega
  refine ⟨by omega, by omega, by omega, ?_, by omega⟩
  rw [Nat.mul_sub]
  have h7 : m * d = d * m := Nat.mul_comm _ _
  have h8 : r * f = f * r := Nat.mul_comm _ _
  omega
theorem btw_le {k n d m f : Nat} (hk : d + f ≤ k) (hd : 0 < d) (hlt : n * f < m * d) : (btw k n d m f).1 ≤ n + m ∧ (btw k n d m f).2 ≤ d + f := by
  have h := (btw_spec k n d m f hk hd hlt).2 (n + m) (d + f) (by omega) (by rw [Nat.mul_add, Nat.add_mul]; omega) (by rw [Nat.mul_add, Nat.add_mul]; omega)
  exact ⟨h.2, h.1⟩
theorem btw_stop {k n d m f : Nat} (h : f = 0 ∨ (n / d + 1) * f < m) : btw (k + 1) n d m f = (n / d + 1, 1) := by
  show (if _ then _ else _) = _
  rw [if_pos h]
theorem btw_go {k n d m f : Nat} (h : ¬ (f = 0 ∨ (n / d + 1) * f < m)) : btw (k + 1) n d m f = ((n / d) * (btw k f (m - n / d * f) d (n % d)).1 + (btw k f (m - n / d * f) d (n % d)).2, (btw k f (m - n / d * f) d (n % d)).1) := by
  show (if _ then _ else _) = _
  rw [if_neg h]
theorem dl_add2 {a b K : Nat} (h1 : dl a ≤ K) (h2 : dl b ≤ K) : dl (a + b) ≤ K + 1 := by
  have h := dlz_add (a : Int) (b : Int)
  rw [show ((a : Int) + (b : Int)).natAbs = a + b by omega, Int.natAbs_natCast, Int.natAbs_natCast] at h
  omega
/-- The call returns two integers in new memory. -/
def RetB2 (w : World) (x y : Int) (e : Ending) (w' : World) : Prop := ∃ s A c L t B d M, e = .returned (.tuple #[.agg #[.bool s, .slice A L c], .agg #[.bool t, .slice B M d]]) ∧ ZO w' w.heap.size s A c L x ∧ ZO w' w.heap.size t B d M y ∧ Ext w w'
set_option maxHeartbeats 4000000 in
set_option maxRecDepth 100000 in
theorem between_inf {w : World} {s1 s2 s3 s4 : Bool} {A1 A2 A3 A4 : Option Addr} {c1 c2 c3 c4 L1 L2 L3 L4 : Nat} {n d m f K W R : Nat} (h1 : ZV w s1 A1 c1 L1 (n : Int)) (h2 : ZV w s2 A2 c2 L2 (d : Int)) (h3 : ZV w s3 A3 c3 L3 (m : Int)) (h4 : ZV w s4 A4 c4 L4 (f : Int)) (hd : 0 < d) (b1 : dl n ≤ K) (b2 : dl d ≤ K) (_b3 : dl m ≤ K) (_b4 : dl f ≤ K) (hK : K ≤ 40) (hW : (W : Int) = (n : Int) / (d : Int)) (hR : (R : Int) = (n : Int) % (d : Int)) (bW : dl W ≤ K) (_bR : dl R ≤ K) (hf : f = 0) :
    Calls Try.prog 89 #[Value.agg #[.bool s1, .slice A1 L1 c1], Value.agg #[.bool s2, .slice A2 L2 c2], Value.agg #[.bool s3, .slice A3 L3 c3], Value.agg #[.bool s4, .slice A4 L4 c4]] w (RetB2 w ((W : Int) + 1) 1) := by
  have HFL : Hid (∀ w' {s1 s2 : Bool} {A1 A2 : Option Addr} {c1 c2 L1 L2 : Nat}, ZV w' s1 A1 c1 L1 (n : Int) → ZV w' s2 A2 c2 L2 (d : Int) → Calls Try.prog 62 #[.agg #[.bool s1, .slice A1 L1 c1], .agg #[.bool s2, .slice A2 L2 c2]] w' (RetQR w' (W : Int) (R : Int))) := fun w' _ _ _ _ _ _ _ _ g1 g2 => by
    have h5 := floor_z g1 g2 (by omega) (by rw [Int.natAbs_natCast]; omega) (by rw [Int.natAbs_natCast]; omega)
    rw [hW, hR]
    exact h5
  clear hW hR
  have e1 : dl (W : Int).natAbs = dl W := by rw [Int.natAbs_natCast]
  have e2 : dl (R : Int).natAbs = dl R := by rw [Int.natAbs_natCast]
  have e3 : dl (f : Int).natAbs = dl f := by rw [Int.natAbs_natCast]
  have e4 : dl (m : Int).natAbs = dl m := by rw [Int.natAbs_natCast]
  have e5 : dl ((W : Int) + 1).natAbs ≤ K + 2 := by
    have h5 := dlz_add (W : Int) 1
    rw [show dl (1 : Int).natAbs = dl 1 from rfl, dl_one] at h5
    omega
  have hfs : ((f : Int)).sign = 0 := by rw [hf]; rfl
  clear hf
  go_enter Try.func89, Try.ntmps89
  go_wp2_with fail
  obtain ⟨w0, hw0⟩ : ∃ z : World, z = ((((((w.alloc (.cells #[.bool s1, .slice A1 L1 c1] 25)).alloc (.cells #[.bool s2, .slice A2 L2 c2] 25)).alloc (.cells #[.bool s3, .slice A3 L3 c3] 25)).alloc (.cells #[.bool s4, .slice A4 L4 c4] 25)).alloc (.cells #[.bool false, .slice none 0 0] 25)).alloc (.cells #[.bool false, .slice none 0 0] 25)) := ⟨_, rfl⟩
  rw [← hw0]
  have bxn : BK w0 (w.heap.size) 25 #[.bool s1, .slice A1 L1 c1] := by rw [hw0]; have h5 := (BK.ext (BK.ext (BK.ext (BK.ext (BK.ext (BK.new w #[.bool s1, .slice A1 L1 c1] 25) (Ext.alloc _ (.cells #[.bool s2, .slice A2 L2 c2] 25))) (Ext.alloc _ (.cells #[.bool s3, .slice A3 L3 c3] 25))) (Ext.alloc _ (.cells #[.bool s4, .slice A4 L4 c4] 25))) (Ext.alloc _ (.cells #[.bool false, .slice none 0 0] 25))) (Ext.alloc _ (.cells #[.bool false, .slice none 0 0] 25))); simpa only [World.size_alloc] using h5
  have bxd : BK w0 (w.heap.size + 1) 25 #[.bool s2, .slice A2 L2 c2] := by rw [hw0]; have h5 := (BK.ext (BK.ext (BK.ext (BK.ext (BK.new (w.alloc (.cells #[.bool s1, .slice A1 L1 c1] 25)) #[.bool s2, .slice A2 L2 c2] 25) (Ext.alloc _ (.cells #[.bool s3, .slice A3 L3 c3] 25))) (Ext.alloc _ (.cells #[.bool s4, .slice A4 L4 c4] 25))) (Ext.alloc _ (.cells #[.bool false, .slice none 0 0] 25))) (Ext.alloc _ (.cells #[.bool false, .slice none 0 0] 25))); simpa only [World.size_alloc] using h5
  have bxm : BK w0 (w.heap.size + 1 + 1) 25 #[.bool s3, .slice A3 L3 c3] := by rw [hw0]; have h5 := (BK.ext (BK.ext (BK.ext (BK.new ((w.alloc (.cells #[.bool s1, .slice A1 L1 c1] 25)).alloc (.cells #[.bool s2, .slice A2 L2 c2] 25)) #[.bool s3, .slice A3 L3 c3] 25) (Ext.alloc _ (.cells #[.bool s4, .slice A4 L4 c4] 25))) (Ext.alloc _ (.cells #[.bool false, .slice none 0 0] 25))) (Ext.alloc _ (.cells #[.bool false, .slice none 0 0] 25))); simpa only [World.size_alloc] using h5
  have bxf : BK w0 (w.heap.size + 1 + 1 + 1) 25 #[.bool s4, .slice A4 L4 c4] := by rw [hw0]; have h5 := (BK.ext (BK.ext (BK.new (((w.alloc (.cells #[.bool s1, .slice A1 L1 c1] 25)).alloc (.cells #[.bool s2, .slice A2 L2 c2] 25)).alloc (.cells #[.bool s3, .slice A3 L3 c3] 25)) #[.bool s4, .slice A4 L4 c4] 25) (Ext.alloc _ (.cells #[.bool false, .slice none 0 0] 25))) (Ext.alloc _ (.cells #[.bool false, .slice none 0 0] 25))); simpa only [World.size_alloc] using h5
  have bxp : BK w0 (w.heap.size + 1 + 1 + 1 + 1) 25 #[.bool false, .slice none 0 0] := by rw [hw0]; have h5 := (BK.ext (BK.new ((((w.alloc (.cells #[.bool s1, .slice A1 L1 c1] 25)).alloc (.cells #[.bool s2, .slice A2 L2 c2] 25)).alloc (.cells #[.bool s3, .slice A3 L3 c3] 25)).alloc (.cells #[.bool s4, .slice A4 L4 c4] 25)) #[.bool false, .slice none 0 0] 25) (Ext.alloc _ (.cells #[.bool false, .slice none 0 0] 25))); simpa only [World.size_alloc] using h5
  have bxq : BK w0 (w.heap.size + 1 + 1 + 1 + 1 + 1) 25 #[.bool false, .slice none 0 0] := by rw [hw0]; have h5 := (BK.new (((((w.alloc (.cells #[.bool s1, .slice A1 L1 c1] 25)).alloc (.cells #[.bool s2, .slice A2 L2 c2] 25)).alloc (.cells #[.bool s3, .slice A3 L3 c3] 25)).alloc (.cells #[.bool s4, .slice A4 L4 c4] 25)).alloc (.cells #[.bool false, .slice none 0 0] 25)) #[.bool false, .slice none 0 0] 25); simpa only [World.size_alloc] using h5
  have hszw0 : w0.heap.size = w.heap.size + 1 + 1 + 1 + 1 + 1 + 1 := by rw [hw0]; simp only [World.size_alloc]
  have xw0 : Ext w w0 := by rw [hw0]; exact ((((((Ext.alloc _ _).trans (Ext.alloc _ _)).trans (Ext.alloc _ _)).trans (Ext.alloc _ _)).trans (Ext.alloc _ _)).trans (Ext.alloc _ _))
  clear hw0
  have g1 := h1.ext xw0
  have g2 := h2.ext xw0
  have g3 := h3.ext xw0
  have g4 := h4.ext xw0
  clear h1 h2 h3 h4
  refine (HFL.out _ (g1.ext (by with_reducible repeat' first | exact Ext.refl _ | assumption | apply Ext.alloc_r | apply Ext.drew_r | apply Ext.drewN_r | refine Ext.trans ?_ ‹Ext _ _›)) (g2.ext (by with_reducible repeat' first | exact Ext.refl _ | assumption | apply Ext.alloc_r | apply Ext.drew_r | apply Ext.drewN_r | refine Ext.trans ?_ ‹Ext _ _›))).mono ?_
  rintro e w1 ⟨saj, Aaj, caj, Laj, sbj, Abj, cbj, Lbj, rfl, ja, jb, x1⟩
  have szw1 : w0.heap.size ≤ w1.heap.size := x1.size
  replace bxn := bxn.ext x1
  replace bxd := bxd.ext x1
  replace bxm := bxm.ext x1
  replace bxf := bxf.ext x1
  replace bxp := bxp.ext x1
  replace bxq := bxq.ext x1
  have HJ := Lib.hid (And.intro ja jb)
  clear ja jb g1
  have kn_0 := bxn.c 0 (.bool s1) rfl
  have kn_1 := bxn.c 1 (.slice A1 L1 c1) rfl
  have kd_0 := bxd.c 0 (.bool s2) rfl
  have kd_1 := bxd.c 1 (.slice A2 L2 c2) rfl
  have km_0 := bxm.c 0 (.bool s3) rfl
  have km_1 := bxm.c 1 (.slice A3 L3 c3) rfl
  have kf_0 := bxf.c 0 (.bool s4) rfl
  have kf_1 := bxf.c 1 (.slice A4 L4 c4) rfl
  have kp_0 := bxp.c 0 (.bool false) rfl
  have kp_1 := bxp.c 1 (.slice none 0 0) rfl
  have kq_0 := bxq.c 0 (.bool false) rfl
  have kq_1 := bxq.c 1 (.slice none 0 0) rfl
  have t1n_0 := fun (o0 : Obj) => ((Ext.alloc w1 o0).cell (bxn.c 0 (.bool s1) rfl))
  have t2n_0 := fun (o0 : Obj) (o1 : Obj) => ((Ext.alloc (w1.alloc o0) o1).cell ((Ext.alloc w1 o0).cell (bxn.c 0 (.bool s1) rfl)))
  have t1n_1 := fun (o0 : Obj) => ((Ext.alloc w1 o0).cell (bxn.c 1 (.slice A1 L1 c1) rfl))
  have t2n_1 := fun (o0 : Obj) (o1 : Obj) => ((Ext.alloc (w1.alloc o0) o1).cell ((Ext.alloc w1 o0).cell (bxn.c 1 (.slice A1 L1 c1) rfl)))
  have t1d_0 := fun (o0 : Obj) => ((Ext.alloc w1 o0).cell (bxd.c 0 (.bool s2) rfl))
  have t2d_0 := fun (o0 : Obj) (o1 : Obj) => ((Ext.alloc (w1.alloc o0) o1).cell ((Ext.alloc w1 o0).cell (bxd.c 0 (.bool s2) rfl)))
  have t1d_1 := fun (o0 : Obj) => ((Ext.alloc w1 o0).cell (bxd.c 1 (.slice A2 L2 c2) rfl))
  have t2d_1 := fun (o0 : Obj) (o1 : Obj) => ((Ext.alloc (w1.alloc o0) o1).cell ((Ext.alloc w1 o0).cell (bxd.c 1 (.slice A2 L2 c2) rfl)))
  have t1m_0 := fun (o0 : Obj) => ((Ext.alloc w1 o0).cell (bxm.c 0 (.bool s3) rfl))
  have t2m_0 := fun (o0 : Obj) (o1 : Obj) => ((Ext.alloc (w1.alloc o0) o1).cell ((Ext.alloc w1 o0).cell (bxm.c 0 (.bool s3) rfl)))
  have t1m_1 := fun (o0 : Obj) => ((Ext.alloc w1 o0).cell (bxm.c 1 (.slice A3 L3 c3) rfl))
  have t2m_1 := fun (o0 : Obj) (o1 : Obj) => ((Ext.alloc (w1.alloc o0) o1).cell ((Ext.alloc w1 o0).cell (bxm.c 1 (.slice A3 L3 c3) rfl)))
  have t1f_0 := fun (o0 : Obj) => ((Ext.alloc w1 o0).cell (bxf.c 0 (.bool s4) rfl))
  have t2f_0 := fun (o0 : Obj) (o1 : Obj) => ((Ext.alloc (w1.alloc o0) o1).cell ((Ext.alloc w1 o0).cell (bxf.c 0 (.bool s4) rfl)))
  have t1f_1 := fun (o0 : Obj) => ((Ext.alloc w1 o0).cell (bxf.c 1 (.slice A4 L4 c4) rfl))
  have t2f_1 := fun (o0 : Obj) (o1 : Obj) => ((Ext.alloc (w1.alloc o0) o1).cell ((Ext.alloc w1 o0).cell (bxf.c 1 (.slice A4 L4 c4) rfl)))
  have t1p_0 := fun (o0 : Obj) => ((Ext.alloc w1 o0).cell (bxp.c 0 (.bool false) rfl))
  have t2p_0 := fun (o0 : Obj) (o1 : Obj) => ((Ext.alloc (w1.alloc o0) o1).cell ((Ext.alloc w1 o0).cell (bxp.c 0 (.bool false) rfl)))
  have t1p_1 := fun (o0 : Obj) => ((Ext.alloc w1 o0).cell (bxp.c 1 (.slice none 0 0) rfl))
  have t2p_1 := fun (o0 : Obj) (o1 : Obj) => ((Ext.alloc (w1.alloc o0) o1).cell ((Ext.alloc w1 o0).cell (bxp.c 1 (.slice none 0 0) rfl)))
  have t1q_0 := fun (o0 : Obj) => ((Ext.alloc w1 o0).cell (bxq.c 0 (.bool false) rfl))
  have t2q_0 := fun (o0 : Obj) (o1 : Obj) => ((Ext.alloc (w1.alloc o0) o1).cell ((Ext.alloc w1 o0).cell (bxq.c 0 (.bool false) rfl)))
  have t1q_1 := fun (o0 : Obj) => ((Ext.alloc w1 o0).cell (bxq.c 1 (.slice none 0 0) rfl))
  have t2q_1 := fun (o0 : Obj) (o1 : Obj) => ((Ext.alloc (w1.alloc o0) o1).cell ((Ext.alloc w1 o0).cell (bxq.c 1 (.slice none 0 0) rfl)))
  go_wp2_with fail
  clear kn_0 kn_1 kd_0 kd_1 km_0 km_1 kf_0 kf_1 kp_0 kp_1 kq_0 kq_1 t1n_0 t2n_0 t1n_1 t2n_1 t1d_0 t2d_0 t1d_1 t2d_1 t1m_0 t2m_0 t1m_1 t2m_1 t1f_0 t2f_0 t1f_1 t2f_1 t1p_0 t2p_0 t1p_1 t2p_1 t1q_0 t2q_0 t1q_1 t2q_1
  obtain ⟨w2, hw⟩ : ∃ z : World, z = ((w1.alloc (.cells #[.bool saj, .slice Aaj Laj caj] 25)).alloc (.cells #[.bool sbj, .slice Abj Lbj cbj] 25)) := ⟨_, rfl⟩
  rw [← hw]
  have x2 : Ext w1 w2 := by rw [hw]; exact ((Ext.alloc _ _).trans (Ext.alloc _ _))
  replace bxn := bxn.ext x2
  replace bxd := bxd.ext x2
  replace bxm := bxm.ext x2
  replace bxf := bxf.ext x2
  replace bxp := bxp.ext x2
  replace bxq := bxq.ext x2
  have bxwh : BK w2 (w1.heap.size) 25 #[.bool saj, .slice Aaj Laj caj] := by rw [hw]; have h5 := (BK.ext (BK.new w1 #[.bool saj, .slice Aaj Laj caj] 25) (Ext.alloc _ (.cells #[.bool sbj, .slice Abj Lbj cbj] 25))); simpa only [World.size_alloc] using h5
  have bxre : BK w2 (w1.heap.size + 1) 25 #[.bool sbj, .slice Abj Lbj cbj] := by rw [hw]; have h5 := (BK.new (w1.alloc (.cells #[.bool saj, .slice Aaj Laj caj] 25)) #[.bool sbj, .slice Abj Lbj cbj] 25); simpa only [World.size_alloc] using h5
  have szw2 : w2.heap.size = w1.heap.size + 1 + 1 := by rw [hw]; simp only [World.size_alloc]
  clear hw
  have j1 := HJ.out.1.ext (show Ext _ w2 from (by with_reducible repeat' first | exact Ext.refl _ | assumption | apply Ext.alloc_r | apply Ext.drew_r | apply Ext.drewN_r | refine Ext.trans ?_ ‹Ext _ _›))
  have j2 := HJ.out.2.ext (show Ext _ w2 from (by with_reducible repeat' first | exact Ext.refl _ | assumption | apply Ext.alloc_r | apply Ext.drew_r | apply Ext.drewN_r | refine Ext.trans ?_ ‹Ext _ _›))
  clear HJ
  have kwh_0 := bxwh.c 0 (.bool saj) rfl
  have kwh_1 := bxwh.c 1 (.slice Aaj Laj caj) rfl
  have HSZ := Lib.hid (And.intro True.intro (And.intro hszw0 (And.intro szw1 szw2)))
  clear hszw0 szw1 szw2
  go_wp2_with fail
  go_cut [13] (fun s13 wx => PutN w2 wx ((W : Int) + 1) s13)
  case first =>
    have HK : Hid (∀ w', Ext w2 w' → Ext w2 w' ∧ w'.cell? ⟨w1.heap.size, 0, none⟩ = some (.bool saj) ∧ w'.cell? ⟨w1.heap.size, 1, none⟩ = some (.slice Aaj Laj caj)) := fun w' hk => ⟨hk, hk.cell kwh_0, hk.cell kwh_1⟩
    first
    | go_region_held3 (fun w' => Ext w2 w' ∧ w'.cell? ⟨w1.heap.size, 0, none⟩ = some (.bool saj) ∧ w'.cell? ⟨w1.heap.size, 1, none⟩ = some (.slice Aaj Laj caj))
        ((with_reducible refine HK.out _ ?_; (repeat' (first | with_reducible exact Ext.refl _ | with_reducible assumption | with_reducible apply Ext.alloc_r | with_reducible apply Ext.drew_r | with_reducible apply Ext.drewN_r | with_reducible apply Ext.set_r | with_reducible exact Nat.le_refl _ | omega | with_reducible refine Ext.trans ?_ ‹Ext _ _›))))
        (first
          | (go_at_call 63; have hgd := u; clear hgd; refine (add_z (j1.zv.ext (by with_reducible repeat' first | exact Ext.refl _ | assumption | apply Ext.alloc_r | apply Ext.drew_r | apply Ext.drewN_r | refine Ext.trans ?_ ‹Ext _ _›)) (u.zv.ext (by with_reducible repeat' first | exact Ext.refl _ | assumption | apply Ext.alloc_r | apply Ext.drew_r | apply Ext.drewN_r | refine Ext.trans ?_ ‹Ext _ _›)) (by omega) (by rw [show dl (1 : Int).natAbs = dl 1 from rfl, dl_one]; omega)).mono ?_; rintro e w4 ⟨st, At, ct, Lt, rfl, t, x4⟩; (have zs4 := x4.size); (try simp only [World.size_alloc] at zs4); (try ((with_reducible have h4_0 := box_ext (vs := #[.bool false, .slice none 0 0]) x4); have h4_0c0 := (h4_0.1 0 (.bool false) rfl).1; have h4_0f0 := (h4_0.1 0 (.bool false) rfl).2; have h4_0c1 := (h4_0.1 1 (.slice none 0 0) rfl).1; have h4_0f1 := (h4_0.1 1 (.slice none 0 0) rfl).2; have h4_0b := h4_0.2.1; have h4_0z := h4_0.2.2; (try simp only [World.size_alloc] at h4_0b h4_0z h4_0c0 h4_0f0 h4_0c1 h4_0f1); have h4_0m := Nat.ne_of_lt h4_0z; have h4_0n := Nat.ne_of_gt h4_0z; clear h4_0)); (try (have hh : Ext w3 w4 := ?g400; (case g400 => ((with_reducible repeat' first | exact Ext.refl _ | assumption | apply Ext.alloc_r | apply Ext.drew_r | apply Ext.drewN_r | refine Ext.trans ?_ ‹Ext _ _›); done)); replace h3_0f0 := hh.frozen h3_0c0 h3_0f0; replace h3_0c0 := hh.cell h3_0c0; replace h3_0f1 := hh.frozen h3_0c1 h3_0f1; replace h3_0c1 := hh.cell h3_0c1; replace h3_0b := h3_0b.ext hh; have h3_0z2 := Nat.lt_of_lt_of_le h3_0z hh.size; have h3_0m2 := Nat.ne_of_lt h3_0z2; have h3_0n2 := Nat.ne_of_gt h3_0z2; clear hh)))
          | (go_at_call 56; refine (of_z (n := 1) (by omega)).mono ?_; rintro e w3 ⟨su, Au, cu, Lu, rfl, u, x3⟩; (have zs3 := x3.size); (try simp only [World.size_alloc, World.size_drew] at zs3); (try ((with_reducible have h3_0 := box_ext (vs := #[.bool false, .slice none 0 0]) ((Ext.drew _).trans x3)); have h3_0c0 := (h3_0.1 0 (.bool false) rfl).1; have h3_0f0 := (h3_0.1 0 (.bool false) rfl).2; have h3_0c1 := (h3_0.1 1 (.slice none 0 0) rfl).1; have h3_0f1 := (h3_0.1 1 (.slice none 0 0) rfl).2; have h3_0b := h3_0.2.1; have h3_0z := h3_0.2.2; (try simp only [World.size_alloc] at h3_0b h3_0z h3_0c0 h3_0f0 h3_0c1 h3_0f1); have h3_0m := Nat.ne_of_lt h3_0z; have h3_0n := Nat.ne_of_gt h3_0z; clear h3_0))))
    | fail
    all_goals (clear HK; go_wp2_with fail; go_meet)
    all_goals
      refine PutN.mk (sb := st) (A := At) (c := ct) (L := Lt) ?_ ?_ ?_ ?_ ?_ ?_ ((t.mono (Ext.size (by with_reducible repeat' first | exact Ext.refl _ | assumption | apply Ext.alloc_r | apply Ext.drew_r | apply Ext.drewN_r | refine Ext.trans ?_ ‹Ext _ _›))).kept ?_) ?_
      · (first | exact Nat.le_refl _ | omega | (simp only [World.size_alloc, World.size_drew]; omega) | (simp; omega))
      · (repeat' (first | with_reducible assumption | with_reducible apply IsBox.set_ | (with_reducible apply IsBox.new; (first | (with_reducible rfl) | simp); done) | with_reducible apply IsBox.alloc_ | with_reducible apply IsBox.drew_ | with_reducible refine IsBox.ext ?_ ‹Ext _ _›))
      · go_simp
      · go_simp
      · go_simp
      · go_simp
      · (repeat' (first | with_reducible exact Kept.refl _ | with_reducible apply Kept.alloc_r | with_reducible apply Kept.drew_r | (with_reducible apply Kept.setZ; (case hb => ((repeat' (first | with_reducible assumption | with_reducible apply IsBox.set_ | (with_reducible apply IsBox.new; (first | (with_reducible rfl) | simp); done) | with_reducible apply IsBox.alloc_ | with_reducible apply IsBox.drew_ | with_reducible refine IsBox.ext ?_ ‹Ext _ _›)); done))) | (with_reducible apply Kept.setI; (case hb => ((repeat' (first | with_reducible assumption | with_reducible apply IsBox.set_ | (with_reducible apply IsBox.new; (first | (with_reducible rfl) | simp); done) | with_reducible apply IsBox.alloc_ | with_reducible apply IsBox.drew_ | with_reducible refine IsBox.ext ?_ ‹Ext _ _›)); done))) | with_reducible refine Kept.trans ?_ (Ext.kept ‹Ext _ _›)))
      · (repeat' (first | with_reducible exact Ext.refl _ | with_reducible assumption | with_reducible apply Ext.alloc_r | with_reducible apply Ext.drew_r | with_reducible apply Ext.drewN_r | with_reducible apply Ext.set_r | with_reducible exact Nat.le_refl _ | omega | with_reducible refine Ext.trans ?_ ‹Ext _ _›))
  case rest =>
    obtain ⟨hszw0, szw1, szw2⟩ := HSZ.out.2
    clear kwh_0 kwh_1
    have hc_0 := hcut
    obtain ⟨bkk, sk, Ak, ck, Lk, rfl, hbk, hwk, k, xxk⟩ := hc_0
    have x5 := xxk
    clear xxk
    obtain ⟨w5, rfl⟩ : ∃ z : World, z = wc := ⟨_, rfl⟩
    have szw5 : w2.heap.size ≤ w5.heap.size := x5.size
    replace bxn := bxn.ext x5
    replace bxd := bxd.ext x5
    replace bxm := bxm.ext x5
    replace bxf := bxf.ext x5
    replace bxp := bxp.ext x5
    replace bxq := bxq.ext x5
    replace bxwh := bxwh.ext x5
    replace bxre := bxre.ext x5
    have lk_0 := hwk.c0
    have lk_1 := hwk.c1
    clear hwk
    have kf_0 := bxf.c 0 (.bool s4) rfl
    have kf_1 := bxf.c 1 (.slice A4 L4 c4) rfl
    go_wp2_with fail
    go_cut [36] (fun s36 wx => s36 = Value.bool true ∧ Ext w5 wx)
    case first =>
      go_region_with (go_at_call 33; refine (sign_is (g4.ext (by with_reducible repeat' first | exact Ext.refl _ | assumption | apply Ext.alloc_r | apply Ext.drew_r | apply Ext.drewN_r | refine Ext.trans ?_ ‹Ext _ _›)) hfs).mono ?_; rintro e w99 ⟨rfl, x99⟩)
      all_goals (go_wp2_with fail; go_meet)
      all_goals exact ⟨rfl, (by with_reducible repeat' first | exact Ext.refl _ | assumption | apply Ext.alloc_r | apply Ext.drew_r | apply Ext.drewN_r | refine Ext.trans ?_ ‹Ext _ _›)⟩
    case rest =>
      clear kf_0 kf_1
      obtain ⟨rfl, x6⟩ := hcut
      obtain ⟨w6, rfl⟩ : ∃ z : World, z = wc := ⟨_, rfl⟩
      have szw6 : w5.heap.size ≤ w6.heap.size := x6.size
      replace bxn := bxn.ext x6
      replace bxd := bxd.ext x6
      replace bxm := bxm.ext x6
      replace bxf := bxf.ext x6
      replace bxp := bxp.ext x6
      replace bxq := bxq.ext x6
      replace bxwh := bxwh.ext x6
      replace bxre := bxre.ext x6
      replace lk_0 := x6.cell lk_0
      replace lk_1 := x6.cell lk_1
      have kn_0 := bxn.c 0 (.bool s1) rfl
      have kn_1 := bxn.c 1 (.slice A1 L1 c1) rfl
      have kd_0 := bxd.c 0 (.bool s2) rfl
      have kd_1 := bxd.c 1 (.slice A2 L2 c2) rfl
      have km_0 := bxm.c 0 (.bool s3) rfl
      have km_1 := bxm.c 1 (.slice A3 L3 c3) rfl
      have kf_0 := bxf.c 0 (.bool s4) rfl
      have kf_1 := bxf.c 1 (.slice A4 L4 c4) rfl
      have kp_0 := bxp.c 0 (.bool false) rfl
      have fp_0 := bxp.f 0
      have kp_1 := bxp.c 1 (.slice none 0 0) rfl
      have fp_1 := bxp.f 1
      have kq_0 := bxq.c 0 (.bool false) rfl
      have fq_0 := bxq.f 0
      have kq_1 := bxq.c 1 (.slice none 0 0) rfl
      have fq_1 := bxq.f 1
      have kwh_0 := bxwh.c 0 (.bool saj) rfl
      have kwh_1 := bxwh.c 1 (.slice Aaj Laj caj) rfl
      have kre_0 := bxre.c 0 (.bool sbj) rfl
      have kre_1 := bxre.c 1 (.slice Abj Lbj cbj) rfl
      go_wp2_with fail
      have HK : Hid (∀ w', Ext w6 w' → (w'.cell? ⟨bkk, 0, none⟩ = some (.bool sk) ∧ w'.cell? ⟨bkk, 1, none⟩ = some (.slice Ak Lk ck))) := fun w' hk => ⟨hk.cell lk_0, hk.cell lk_1⟩
      have neplk : w.heap.size + 1 + 1 + 1 + 1 ≠ bkk := by omega
      have HSp : Hid (∀ (w' : World) (i : Nat) (u : Value), (w'.cell? ⟨bkk, 0, none⟩ = some (.bool sk) ∧ w'.cell? ⟨bkk, 1, none⟩ = some (.slice Ak Lk ck)) → ((fun (w' : World) => (w'.cell? ⟨bkk, 0, none⟩ = some (.bool sk) ∧ w'.cell? ⟨bkk, 1, none⟩ = some (.slice Ak Lk ck))) (w'.setCell ⟨w.heap.size + 1 + 1 + 1 + 1, i, none⟩ u))) := fun w' i u hs => ⟨cell_far neplk hs.1, cell_far neplk hs.2⟩
      have neqlk : w.heap.size + 1 + 1 + 1 + 1 + 1 ≠ bkk := by omega
      have HSq : Hid (∀ (w' : World) (i : Nat) (u : Value), (w'.cell? ⟨bkk, 0, none⟩ = some (.bool sk) ∧ w'.cell? ⟨bkk, 1, none⟩ = some (.slice Ak Lk ck)) → ((fun (w' : World) => (w'.cell? ⟨bkk, 0, none⟩ = some (.bool sk) ∧ w'.cell? ⟨bkk, 1, none⟩ = some (.slice Ak Lk ck))) (w'.setCell ⟨w.heap.size + 1 + 1 + 1 + 1 + 1, i, none⟩ u))) := fun w' i u hs => ⟨cell_far neqlk hs.1, cell_far neqlk hs.2⟩
      go_region_held3 (fun w' => w'.cell? ⟨bkk, 0, none⟩ = some (.bool sk) ∧ w'.cell? ⟨bkk, 1, none⟩ = some (.slice Ak Lk ck))
        (((repeat (first | (with_reducible refine HSp.out _ _ _ ?_) | (with_reducible refine HSq.out _ _ _ ?_))); (with_reducible refine HK.out _ ?_; (with_reducible repeat' first | exact Ext.refl _ | assumption | apply Ext.alloc_r | apply Ext.drew_r | apply Ext.drewN_r | refine Ext.trans ?_ ‹Ext _ _›))))
        (first
          | (go_at_call 56; refine (of_z (n := 1) (by omega)).mono ?_; rintro e w7 ⟨so, Ao, co, Lo, rfl, o, x7⟩; have yl : Ext w6 w7 := (by with_reducible repeat' first | exact Ext.refl _ | assumption | apply Ext.alloc_r | apply Ext.drew_r | apply Ext.drewN_r | refine Ext.trans ?_ ‹Ext _ _›); have cp_0 := (bxp.ext yl).c 0 (.bool false) rfl; have gp_0 := (bxp.ext yl).f 0; have cp_1 := (bxp.ext yl).c 1 (.slice none 0 0) rfl; have gp_1 := (bxp.ext yl).f 1; have cq_0 := (bxq.ext yl).c 0 (.bool false) rfl; have gq_0 := (bxq.ext yl).f 0; have cq_1 := (bxq.ext yl).c 1 (.slice none 0 0) rfl; have gq_1 := (bxq.ext yl).f 1))
      clear kn_0 kn_1 kd_0 kd_1 km_0 km_1 kf_0 kf_1 kp_0 fp_0 kp_1 fp_1 kq_0 fq_0 kq_1 fq_1 kwh_0 kwh_1 kre_0 kre_1
      clear HK HSp neplk HSq neqlk
      clear cp_0 gp_0
      clear cp_1 gp_1
      clear cq_0 gq_0
      clear cq_1 gq_1
      clear yl
      have xhw7 : Ext w6 w7 := (by with_reducible repeat' first | exact Ext.refl _ | assumption | apply Ext.alloc_r | apply Ext.drew_r | apply Ext.drewN_r | refine Ext.trans ?_ ‹Ext _ _›)
      have szw7 : w6.heap.size ≤ w7.heap.size := xhw7.size
      replace bxn := bxn.ext xhw7
      replace bxd := bxd.ext xhw7
      replace bxm := bxm.ext xhw7
      replace bxf := bxf.ext xhw7
      replace bxp := bxp.ext xhw7
      replace bxq := bxq.ext xhw7
      replace bxwh := bxwh.ext xhw7
      replace bxre := bxre.ext xhw7
      replace lk_0 := xhw7.cell lk_0
      replace lk_1 := xhw7.cell lk_1
      have zk := k.ext (show Ext _ w7 from (by with_reducible repeat' first | exact Ext.refl _ | assumption | apply Ext.alloc_r | apply Ext.drew_r | apply Ext.drewN_r | refine Ext.trans ?_ ‹Ext _ _›))
      have zo := o.mono (show w.heap.size ≤ _ by first | omega | (simp only [World.size_drew]; omega))
      clear k o
      obtain ⟨w8, hw⟩ : ∃ z : World, z = ((((w7.setCell ⟨w.heap.size + 1 + 1 + 1 + 1, 0, none⟩ (.bool sk)).setCell ⟨w.heap.size + 1 + 1 + 1 + 1, 1, none⟩ (.slice Ak Lk ck)).setCell ⟨w.heap.size + 1 + 1 + 1 + 1 + 1, 0, none⟩ (.bool so)).setCell ⟨w.heap.size + 1 + 1 + 1 + 1 + 1, 1, none⟩ (.slice Ao Lo co)) := ⟨_, rfl⟩
      rw [← hw]
      have kw8 : Kept w7 w8 := by rw [hw]; exact (Kept.set_ (Kept.set_ (Kept.set_ (Kept.set_ (Kept.refl _) bxp.isBox plain_int) (IsBox.set_ bxp.isBox) plain_int) (IsBox.set_ (IsBox.set_ bxq.isBox)) plain_int) (IsBox.set_ (IsBox.set_ (IsBox.set_ bxq.isBox))) plain_int)
      have nbn : BK w8 (w.heap.size) 25 #[.bool s1, .slice A1 L1 c1] := by rw [hw]; exact (BK.far (BK.far (BK.far (BK.far bxn (show w.heap.size ≠ w.heap.size + 1 + 1 + 1 + 1 by omega) 0 _) (show w.heap.size ≠ w.heap.size + 1 + 1 + 1 + 1 by omega) 1 _) (show w.heap.size ≠ w.heap.size + 1 + 1 + 1 + 1 + 1 by omega) 0 _) (show w.heap.size ≠ w.heap.size + 1 + 1 + 1 + 1 + 1 by omega) 1 _)
      have nbd : BK w8 (w.heap.size + 1) 25 #[.bool s2, .slice A2 L2 c2] := by rw [hw]; exact (BK.far (BK.far (BK.far (BK.far bxd (show w.heap.size + 1 ≠ w.heap.size + 1 + 1 + 1 + 1 by omega) 0 _) (show w.heap.size + 1 ≠ w.heap.size + 1 + 1 + 1 + 1 by omega) 1 _) (show w.heap.size + 1 ≠ w.heap.size + 1 + 1 + 1 + 1 + 1 by omega) 0 _) (show w.heap.size + 1 ≠ w.heap.size + 1 + 1 + 1 + 1 + 1 by omega) 1 _)
      have nbm : BK w8 (w.heap.size + 1 + 1) 25 #[.bool s3, .slice A3 L3 c3] := by rw [hw]; exact (BK.far (BK.far (BK.far (BK.far bxm (show w.heap.size + 1 + 1 ≠ w.heap.size + 1 + 1 + 1 + 1 by omega) 0 _) (show w.heap.size + 1 + 1 ≠ w.heap.size + 1 + 1 + 1 + 1 by omega) 1 _) (show w.heap.size + 1 + 1 ≠ w.heap.size + 1 + 1 + 1 + 1 + 1 by omega) 0 _) (show w.heap.size + 1 + 1 ≠ w.heap.size + 1 + 1 + 1 + 1 + 1 by omega) 1 _)
      have nbf : BK w8 (w.heap.size + 1 + 1 + 1) 25 #[.bool s4, .slice A4 L4 c4] := by rw [hw]; exact (BK.far (BK.far (BK.far (BK.far bxf (show w.heap.size + 1 + 1 + 1 ≠ w.heap.size + 1 + 1 + 1 + 1 by omega) 0 _) (show w.heap.size + 1 + 1 + 1 ≠ w.heap.size + 1 + 1 + 1 + 1 by omega) 1 _) (show w.heap.size + 1 + 1 + 1 ≠ w.heap.size + 1 + 1 + 1 + 1 + 1 by omega) 0 _) (show w.heap.size + 1 + 1 + 1 ≠ w.heap.size + 1 + 1 + 1 + 1 + 1 by omega) 1 _)
      have nbp : BK w8 (w.heap.size + 1 + 1 + 1 + 1) 25 #[.bool sk, .slice Ak Lk ck] := by rw [hw]; exact (BK.far (BK.far (BK.set (i := 1) (u := .slice Ak Lk ck) (vs' := #[.bool sk, .slice Ak Lk ck]) (BK.set (i := 0) (u := .bool sk) (vs' := #[.bool sk, .slice none 0 0]) bxp rfl) rfl) (show w.heap.size + 1 + 1 + 1 + 1 ≠ w.heap.size + 1 + 1 + 1 + 1 + 1 by omega) 0 _) (show w.heap.size + 1 + 1 + 1 + 1 ≠ w.heap.size + 1 + 1 + 1 + 1 + 1 by omega) 1 _)
      have nbq : BK w8 (w.heap.size + 1 + 1 + 1 + 1 + 1) 25 #[.bool so, .slice Ao Lo co] := by rw [hw]; exact (BK.set (i := 1) (u := .slice Ao Lo co) (vs' := #[.bool so, .slice Ao Lo co]) (BK.set (i := 0) (u := .bool so) (vs' := #[.bool so, .slice none 0 0]) (BK.far (BK.far bxq (show w.heap.size + 1 + 1 + 1 + 1 + 1 ≠ w.heap.size + 1 + 1 + 1 + 1 by omega) 0 _) (show w.heap.size + 1 + 1 + 1 + 1 + 1 ≠ w.heap.size + 1 + 1 + 1 + 1 by omega) 1 _) rfl) rfl)
      have nbwh : BK w8 (w1.heap.size) 25 #[.bool saj, .slice Aaj Laj caj] := by rw [hw]; exact (BK.far (BK.far (BK.far (BK.far bxwh (show w1.heap.size ≠ w.heap.size + 1 + 1 + 1 + 1 by omega) 0 _) (show w1.heap.size ≠ w.heap.size + 1 + 1 + 1 + 1 by omega) 1 _) (show w1.heap.size ≠ w.heap.size + 1 + 1 + 1 + 1 + 1 by omega) 0 _) (show w1.heap.size ≠ w.heap.size + 1 + 1 + 1 + 1 + 1 by omega) 1 _)
      have nbre : BK w8 (w1.heap.size + 1) 25 #[.bool sbj, .slice Abj Lbj cbj] := by rw [hw]; exact (BK.far (BK.far (BK.far (BK.far bxre (show w1.heap.size + 1 ≠ w.heap.size + 1 + 1 + 1 + 1 by omega) 0 _) (show w1.heap.size + 1 ≠ w.heap.size + 1 + 1 + 1 + 1 by omega) 1 _) (show w1.heap.size + 1 ≠ w.heap.size + 1 + 1 + 1 + 1 + 1 by omega) 0 _) (show w1.heap.size + 1 ≠ w.heap.size + 1 + 1 + 1 + 1 + 1 by omega) 1 _)
      have x8 : Ext w w8 := by rw [hw]; have hxp : Ext w w7 := (by with_reducible repeat' first | exact Ext.refl _ | assumption | apply Ext.alloc_r | apply Ext.drew_r | apply Ext.drewN_r | refine Ext.trans ?_ ‹Ext _ _›); exact (Ext.set_ (Ext.set_ (Ext.set_ (Ext.set_ hxp (show _ ≤ w.heap.size + 1 + 1 + 1 + 1 by omega)) (show _ ≤ w.heap.size + 1 + 1 + 1 + 1 by omega)) (show _ ≤ w.heap.size + 1 + 1 + 1 + 1 + 1 by omega)) (show _ ≤ w.heap.size + 1 + 1 + 1 + 1 + 1 by omega))
      clear bxn
      clear bxd
      clear bxm
      clear bxf
      clear bxp
      clear bxq
      clear bxwh
      clear bxre
      have bxn := nbn
      clear nbn
      have bxd := nbd
      clear nbd
      have bxm := nbm
      clear nbm
      have bxf := nbf
      clear nbf
      have bxp := nbp
      clear nbp
      have bxq := nbq
      clear nbq
      have bxwh := nbwh
      clear nbwh
      have bxre := nbre
      clear nbre
      have szw8 : w8.heap.size = w7.heap.size := by rw [hw]; simp
      replace zk := (zk.ext (by with_reducible repeat' first | exact Ext.refl _ | assumption | apply Ext.alloc_r | apply Ext.drew_r | apply Ext.drewN_r | refine Ext.trans ?_ ‹Ext _ _›)).kept kw8
      replace zo := (zo.ext (by with_reducible repeat' first | exact Ext.refl _ | assumption | apply Ext.alloc_r | apply Ext.drew_r | apply Ext.drewN_r | refine Ext.trans ?_ ‹Ext _ _›)).kept kw8
      clear hw kw8
      have HZ := Lib.hid (And.intro (zk.mono (show w.heap.size ≤ _ by first | omega | (simp only [World.size_drew]; omega))) zo)
      clear zk zo
      have kn_0 := bxn.c 0 (.bool s1) rfl
      have kn_1 := bxn.c 1 (.slice A1 L1 c1) rfl
      have kd_0 := bxd.c 0 (.bool s2) rfl
      have kd_1 := bxd.c 1 (.slice A2 L2 c2) rfl
      have km_0 := bxm.c 0 (.bool s3) rfl
      have km_1 := bxm.c 1 (.slice A3 L3 c3) rfl
      have kf_0 := bxf.c 0 (.bool s4) rfl
      have kf_1 := bxf.c 1 (.slice A4 L4 c4) rfl
      have kp_0 := bxp.c 0 (.bool sk) rfl
      have kp_1 := bxp.c 1 (.slice Ak Lk ck) rfl
      have kq_0 := bxq.c 0 (.bool so) rfl
      have kq_1 := bxq.c 1 (.slice Ao Lo co) rfl
      have kwh_0 := bxwh.c 0 (.bool saj) rfl
      have kwh_1 := bxwh.c 1 (.slice Aaj Laj caj) rfl
      have kre_0 := bxre.c 0 (.bool sbj) rfl
      have kre_1 := bxre.c 1 (.slice Abj Lbj cbj) rfl
      go_wp2_with fail
      clear kn_0 kn_1 kd_0 kd_1 km_0 km_1 kf_0 kf_1 kp_0 kp_1 kq_0 kq_1 kwh_0 kwh_1 kre_0 kre_1
      have kp_0 := bxp.c 0 (.bool sk) rfl
      have kp_1 := bxp.c 1 (.slice Ak Lk ck) rfl
      have kq_0 := bxq.c 0 (.bool so) rfl
      have kq_1 := bxq.c 1 (.slice Ao Lo co) rfl
      refine bodyPost_ret (v := .tuple #[.agg #[.bool sk, .slice Ak Lk ck], .agg #[.bool so, .slice Ao Lo co]]) (by simp [results, Try.results89, go_sem, kp_0, kp_1, kq_0, kq_1]) rfl ?_
      exact ⟨_, _, _, _, _, _, _, _, rfl, HZ.out.1, HZ.out.2, x8⟩
set_option maxHeartbeats 4000000 in
set_option maxRecDepth 100000 in
theorem between_small {w : World} {s1 s2 s3 s4 : Bool} {A1 A2 A3 A4 : Option Addr} {c1 c2 c3 c4 L1 L2 L3 L4 : Nat} {n d m f K W R : Nat} (h1 : ZV w s1 A1 c1 L1 (n : Int)) (h2 : ZV w s2 A2 c2 L2 (d : Int)) (h3 : ZV w s3 A3 c3 L3 (m : Int)) (h4 : ZV w s4 A4 c4 L4 (f : Int)) (hd : 0 < d) (b1 : dl n ≤ K) (b2 : dl d ≤ K) (_b3 : dl m ≤ K) (b4 : dl f ≤ K) (hK : K ≤ 40) (hW : (W : Int) = (n : Int) / (d : Int)) (hR : (R : Int) = (n : Int) % (d : Int)) (bW : dl W ≤ K) (_bR : dl R ≤ K) (hf : 0 < f) (hlt : (W + 1) * f < m) :
    Calls Try.prog 89 #[Value.agg #[.bool s1, .slice A1 L1 c1], Value.agg #[.bool s2, .slice A2 L2 c2], Value.agg #[.bool s3, .slice A3 L3 c3], Value.agg #[.bool s4, .slice A4 L4 c4]] w (RetB2 w ((W : Int) + 1) 1) := by
  have HFL : Hid (∀ w' {s1 s2 : Bool} {A1 A2 : Option Addr} {c1 c2 L1 L2 : Nat}, ZV w' s1 A1 c1 L1 (n : Int) → ZV w' s2 A2 c2 L2 (d : Int) → Calls Try.prog 62 #[.agg #[.bool s1, .slice A1 L1 c1], .agg #[.bool s2, .slice A2 L2 c2]] w' (RetQR w' (W : Int) (R : Int))) := fun w' _ _ _ _ _ _ _ _ g1 g2 => by
    have h5 := floor_z g1 g2 (by omega) (by rw [Int.natAbs_natCast]; omega) (by rw [Int.natAbs_natCast]; omega)
    rw [hW, hR]
    exact h5
  clear hW hR
  have e1 : dl (W : Int).natAbs = dl W := by rw [Int.natAbs_natCast]
  have e2 : dl (R : Int).natAbs = dl R := by rw [Int.natAbs_natCast]
  have e3 : dl (f : Int).natAbs = dl f := by rw [Int.natAbs_natCast]
  have e4 : dl (m : Int).natAbs = dl m := by rw [Int.natAbs_natCast]
  have e5 : dl ((W : Int) + 1).natAbs ≤ K + 2 := by
    have h5 := dlz_add (W : Int) 1
    rw [show dl (1 : Int).natAbs = dl 1 from rfl, dl_one] at h5
    omega
  have hfs : ((f : Int)).sign = 1 := Int.sign_eq_one_of_pos (by omega)
  have hcm : cmpZ (((W : Int) + 1) * (f : Int)) (m : Int) = -1 := cmpZ_lt (by exact_mod_cast hlt)
  clear hf hlt
  go_enter Try.func89, Try.ntmps89
  go_wp2_with fail
  obtain ⟨w0, hw0⟩ : ∃ z : World, z = ((((((w.alloc (.cells #[.bool s1, .slice A1 L1 c1] 25)).alloc (.cells #[.bool s2, .slice A2 L2 c2] 25)).alloc (.cells #[.bool s3, .slice A3 L3 c3] 25)).alloc (.cells #[.bool s4, .slice A4 L4 c4] 25)).alloc (.cells #[.bool false, .slice none 0 0] 25)).alloc (.cells #[.bool false, .slice none 0 0] 25)) := ⟨_, rfl⟩
  rw [← hw0]
  have bxn : BK w0 (w.heap.size) 25 #[.bool s1, .slice A1 L1 c1] := by rw [hw0]; have h5 := (BK.ext (BK.ext (BK.ext (BK.ext (BK.ext (BK.new w #[.bool s1, .slice A1 L1 c1] 25) (Ext.alloc _ (.cells #[.bool s2, .slice A2 L2 c2] 25))) (Ext.alloc _ (.cells #[.bool s3, .slice A3 L3 c3] 25))) (Ext.alloc _ (.cells #[.bool s4, .slice A4 L4 c4] 25))) (Ext.alloc _ (.cells #[.bool false, .slice none 0 0] 25))) (Ext.alloc _ (.cells #[.bool false, .slice none 0 0] 25))); simpa only [World.size_alloc] using h5
  have bxd : BK w0 (w.heap.size + 1) 25 #[.bool s2, .slice A2 L2 c2] := by rw [hw0]; have h5 := (BK.ext (BK.ext (BK.ext (BK.ext (BK.new (w.alloc (.cells #[.bool s1, .slice A1 L1 c1] 25)) #[.bool s2, .slice A2 L2 c2] 25) (Ext.alloc _ (.cells #[.bool s3, .slice A3 L3 c3] 25))) (Ext.alloc _ (.cells #[.bool s4, .slice A4 L4 c4] 25))) (Ext.alloc _ (.cells #[.bool false, .slice none 0 0] 25))) (Ext.alloc _ (.cells #[.bool false, .slice none 0 0] 25))); simpa only [World.size_alloc] using h5
  have bxm : BK w0 (w.heap.size + 1 + 1) 25 #[.bool s3, .slice A3 L3 c3] := by rw [hw0]; have h5 := (BK.ext (BK.ext (BK.ext (BK.new ((w.alloc (.cells #[.bool s1, .slice A1 L1 c1] 25)).alloc (.cells #[.bool s2, .slice A2 L2 c2] 25)) #[.bool s3, .slice A3 L3 c3] 25) (Ext.alloc _ (.cells #[.bool s4, .slice A4 L4 c4] 25))) (Ext.alloc _ (.cells #[.bool false, .slice none 0 0] 25))) (Ext.alloc _ (.cells #[.bool false, .slice none 0 0] 25))); simpa only [World.size_alloc] using h5
  have bxf : BK w0 (w.heap.size + 1 + 1 + 1) 25 #[.bool s4, .slice A4 L4 c4] := by rw [hw0]; have h5 := (BK.ext (BK.ext (BK.new (((w.alloc (.cells #[.bool s1, .slice A1 L1 c1] 25)).alloc (.cells #[.bool s2, .slice A2 L2 c2] 25)).alloc (.cells #[.bool s3, .slice A3 L3 c3] 25)) #[.bool s4, .slice A4 L4 c4] 25) (Ext.alloc _ (.cells #[.bool false, .slice none 0 0] 25))) (Ext.alloc _ (.cells #[.bool false, .slice none 0 0] 25))); simpa only [World.size_alloc] using h5
  have bxp : BK w0 (w.heap.size + 1 + 1 + 1 + 1) 25 #[.bool false, .slice none 0 0] := by rw [hw0]; have h5 := (BK.ext (BK.new ((((w.alloc (.cells #[.bool s1, .slice A1 L1 c1] 25)).alloc (.cells #[.bool s2, .slice A2 L2 c2] 25)).alloc (.cells #[.bool s3, .slice A3 L3 c3] 25)).alloc (.cells #[.bool s4, .slice A4 L4 c4] 25)) #[.bool false, .slice none 0 0] 25) (Ext.alloc _ (.cells #[.bool false, .slice none 0 0] 25))); simpa only [World.size_alloc] using h5
  have bxq : BK w0 (w.heap.size + 1 + 1 + 1 + 1 + 1) 25 #[.bool false, .slice none 0 0] := by rw [hw0]; have h5 := (BK.new (((((w.alloc (.cells #[.bool s1, .slice A1 L1 c1] 25)).alloc (.cells #[.bool s2, .slice A2 L2 c2] 25)).alloc (.cells #[.bool s3, .slice A3 L3 c3] 25)).alloc (.cells #[.bool s4, .slice A4 L4 c4] 25)).alloc (.cells #[.bool false, .slice none 0 0] 25)) #[.bool false, .slice none 0 0] 25); simpa only [World.size_alloc] using h5
  have hszw0 : w0.heap.size = w.heap.size + 1 + 1 + 1 + 1 + 1 + 1 := by rw [hw0]; simp only [World.size_alloc]
  have xw0 : Ext w w0 := by rw [hw0]; exact ((((((Ext.alloc _ _).trans (Ext.alloc _ _)).trans (Ext.alloc _ _)).trans (Ext.alloc _ _)).trans (Ext.alloc _ _)).trans (Ext.alloc _ _))
  clear hw0
  have g1 := h1.ext xw0
  have g2 := h2.ext xw0
  have g3 := h3.ext xw0
  have g4 := h4.ext xw0
  clear h1 h2 h3 h4
  refine (HFL.out _ (g1.ext (by with_reducible repeat' first | exact Ext.refl _ | assumption | apply Ext.alloc_r | apply Ext.drew_r | apply Ext.drewN_r | refine Ext.trans ?_ ‹Ext _ _›)) (g2.ext (by with_reducible repeat' first | exact Ext.refl _ | assumption | apply Ext.alloc_r | apply Ext.drew_r | apply Ext.drewN_r | refine Ext.trans ?_ ‹Ext _ _›))).mono ?_
  rintro e w1 ⟨saj, Aaj, caj, Laj, sbj, Abj, cbj, Lbj, rfl, ja, jb, x1⟩
  have szw1 : w0.heap.size ≤ w1.heap.size := x1.size
  replace bxn := bxn.ext x1
  replace bxd := bxd.ext x1
  replace bxm := bxm.ext x1
  replace bxf := bxf.ext x1
  replace bxp := bxp.ext x1
  replace bxq := bxq.ext x1
  have HJ := Lib.hid (And.intro ja jb)
  clear ja jb g1
  have kn_0 := bxn.c 0 (.bool s1) rfl
  have kn_1 := bxn.c 1 (.slice A1 L1 c1) rfl
  have kd_0 := bxd.c 0 (.bool s2) rfl
  have kd_1 := bxd.c 1 (.slice A2 L2 c2) rfl
  have km_0 := bxm.c 0 (.bool s3) rfl
  have km_1 := bxm.c 1 (.slice A3 L3 c3) rfl
  have kf_0 := bxf.c 0 (.bool s4) rfl
  have kf_1 := bxf.c 1 (.slice A4 L4 c4) rfl
  have kp_0 := bxp.c 0 (.bool false) rfl
  have kp_1 := bxp.c 1 (.slice none 0 0) rfl
  have kq_0 := bxq.c 0 (.bool false) rfl
  have kq_1 := bxq.c 1 (.slice none 0 0) rfl
  have t1n_0 := fun (o0 : Obj) => ((Ext.alloc w1 o0).cell (bxn.c 0 (.bool s1) rfl))
  have t2n_0 := fun (o0 : Obj) (o1 : Obj) => ((Ext.alloc (w1.alloc o0) o1).cell ((Ext.alloc w1 o0).cell (bxn.c 0 (.bool s1) rfl)))
  have t1n_1 := fun (o0 : Obj) => ((Ext.alloc w1 o0).cell (bxn.c 1 (.slice A1 L1 c1) rfl))
  have t2n_1 := fun (o0 : Obj) (o1 : Obj) => ((Ext.alloc (w1.alloc o0) o1).cell ((Ext.alloc w1 o0).cell (bxn.c 1 (.slice A1 L1 c1) rfl)))
  have t1d_0 := fun (o0 : Obj) => ((Ext.alloc w1 o0).cell (bxd.c 0 (.bool s2) rfl))
  have t2d_0 := fun (o0 : Obj) (o1 : Obj) => ((Ext.alloc (w1.alloc o0) o1).cell ((Ext.alloc w1 o0).cell (bxd.c 0 (.bool s2) rfl)))
  have t1d_1 := fun (o0 : Obj) => ((Ext.alloc w1 o0).cell (bxd.c 1 (.slice A2 L2 c2) rfl))
  have t2d_1 := fun (o0 : Obj) (o1 : Obj) => ((Ext.alloc (w1.alloc o0) o1).cell ((Ext.alloc w1 o0).cell (bxd.c 1 (.slice A2 L2 c2) rfl)))
  have t1m_0 := fun (o0 : Obj) => ((Ext.alloc w1 o0).cell (bxm.c 0 (.bool s3) rfl))
  have t2m_0 := fun (o0 : Obj) (o1 : Obj) => ((Ext.alloc (w1.alloc o0) o1).cell ((Ext.alloc w1 o0).cell (bxm.c 0 (.bool s3) rfl)))
  have t1m_1 := fun (o0 : Obj) => ((Ext.alloc w1 o0).cell (bxm.c 1 (.slice A3 L3 c3) rfl))
  have t2m_1 := fun (o0 : Obj) (o1 : Obj) => ((Ext.alloc (w1.alloc o0) o1).cell ((Ext.alloc w1 o0).cell (bxm.c 1 (.slice A3 L3 c3) rfl)))
  have t1f_0 := fun (o0 : Obj) => ((Ext.alloc w1 o0).cell (bxf.c 0 (.bool s4) rfl))
  have t2f_0 := fun (o0 : Obj) (o1 : Obj) => ((Ext.alloc (w1.alloc o0) o1).cell ((Ext.alloc w1 o0).cell (bxf.c 0 (.bool s4) rfl)))
  have t1f_1 := fun (o0 : Obj) => ((Ext.alloc w1 o0).cell (bxf.c 1 (.slice A4 L4 c4) rfl))
  have t2f_1 := fun (o0 : Obj) (o1 : Obj) => ((Ext.alloc (w1.alloc o0) o1).cell ((Ext.alloc w1 o0).cell (bxf.c 1 (.slice A4 L4 c4) rfl)))
  have t1p_0 := fun (o0 : Obj) => ((Ext.alloc w1 o0).cell (bxp.c 0 (.bool false) rfl))
  have t2p_0 := fun (o0 : Obj) (o1 : Obj) => ((Ext.alloc (w1.alloc o0) o1).cell ((Ext.alloc w1 o0).cell (bxp.c 0 (.bool false) rfl)))
  have t1p_1 := fun (o0 : Obj) => ((Ext.alloc w1 o0).cell (bxp.c 1 (.slice none 0 0) rfl))
  have t2p_1 := fun (o0 : Obj) (o1 : Obj) => ((Ext.alloc (w1.alloc o0) o1).cell ((Ext.alloc w1 o0).cell (bxp.c 1 (.slice none 0 0) rfl)))
  have t1q_0 := fun (o0 : Obj) => ((Ext.alloc w1 o0).cell (bxq.c 0 (.bool false) rfl))
  have t2q_0 := fun (o0 : Obj) (o1 : Obj) => ((Ext.alloc (w1.alloc o0) o1).cell ((Ext.alloc w1 o0).cell (bxq.c 0 (.bool false) rfl)))
  have t1q_1 := fun (o0 : Obj) => ((Ext.alloc w1 o0).cell (bxq.c 1 (.slice none 0 0) rfl))
  have t2q_1 := fun (o0 : Obj) (o1 : Obj) => ((Ext.alloc (w1.alloc o0) o1).cell ((Ext.alloc w1 o0).cell (bxq.c 1 (.slice none 0 0) rfl)))
  go_wp2_with fail
  clear kn_0 kn_1 kd_0 kd_1 km_0 km_1 kf_0 kf_1 kp_0 kp_1 kq_0 kq_1 t1n_0 t2n_0 t1n_1 t2n_1 t1d_0 t2d_0 t1d_1 t2d_1 t1m_0 t2m_0 t1m_1 t2m_1 t1f_0 t2f_0 t1f_1 t2f_1 t1p_0 t2p_0 t1p_1 t2p_1 t1q_0 t2q_0 t1q_1 t2q_1
  obtain ⟨w2, hw⟩ : ∃ z : World, z = ((w1.alloc (.cells #[.bool saj, .slice Aaj Laj caj] 25)).alloc (.cells #[.bool sbj, .slice Abj Lbj cbj] 25)) := ⟨_, rfl⟩
  rw [← hw]
  have x2 : Ext w1 w2 := by rw [hw]; exact ((Ext.alloc _ _).trans (Ext.alloc _ _))
  replace bxn := bxn.ext x2
  replace bxd := bxd.ext x2
  replace bxm := bxm.ext x2
  replace bxf := bxf.ext x2
  replace bxp := bxp.ext x2
  replace bxq := bxq.ext x2
  have bxwh : BK w2 (w1.heap.size) 25 #[.bool saj, .slice Aaj Laj caj] := by rw [hw]; have h5 := (BK.ext (BK.new w1 #[.bool saj, .slice Aaj Laj caj] 25) (Ext.alloc _ (.cells #[.bool sbj, .slice Abj Lbj cbj] 25))); simpa only [World.size_alloc] using h5
  have bxre : BK w2 (w1.heap.size + 1) 25 #[.bool sbj, .slice Abj Lbj cbj] := by rw [hw]; have h5 := (BK.new (w1.alloc (.cells #[.bool saj, .slice Aaj Laj caj] 25)) #[.bool sbj, .slice Abj Lbj cbj] 25); simpa only [World.size_alloc] using h5
  have szw2 : w2.heap.size = w1.heap.size + 1 + 1 := by rw [hw]; simp only [World.size_alloc]
  clear hw
  have j1 := HJ.out.1.ext (show Ext _ w2 from (by with_reducible repeat' first | exact Ext.refl _ | assumption | apply Ext.alloc_r | apply Ext.drew_r | apply Ext.drewN_r | refine Ext.trans ?_ ‹Ext _ _›))
  have j2 := HJ.out.2.ext (show Ext _ w2 from (by with_reducible repeat' first | exact Ext.refl _ | assumption | apply Ext.alloc_r | apply Ext.drew_r | apply Ext.drewN_r | refine Ext.trans ?_ ‹Ext _ _›))
  clear HJ
  have kwh_0 := bxwh.c 0 (.bool saj) rfl
  have kwh_1 := bxwh.c 1 (.slice Aaj Laj caj) rfl
  have HSZ := Lib.hid (And.intro True.intro (And.intro hszw0 (And.intro szw1 szw2)))
  clear hszw0 szw1 szw2
  go_wp2_with fail
  go_cut [13] (fun s13 wx => PutN w2 wx ((W : Int) + 1) s13)
  case first =>
    have HK : Hid (∀ w', Ext w2 w' → Ext w2 w' ∧ w'.cell? ⟨w1.heap.size, 0, none⟩ = some (.bool saj) ∧ w'.cell? ⟨w1.heap.size, 1, none⟩ = some (.slice Aaj Laj caj)) := fun w' hk => ⟨hk, hk.cell kwh_0, hk.cell kwh_1⟩
    first
    | go_region_held3 (fun w' => Ext w2 w' ∧ w'.cell? ⟨w1.heap.size, 0, none⟩ = some (.bool saj) ∧ w'.cell? ⟨w1.heap.size, 1, none⟩ = some (.slice Aaj Laj caj))
        ((with_reducible refine HK.out _ ?_; (repeat' (first | with_reducible exact Ext.refl _ | with_reducible assumption | with_reducible apply Ext.alloc_r | with_reducible apply Ext.drew_r | with_reducible apply Ext.drewN_r | with_reducible apply Ext.set_r | with_reducible exact Nat.le_refl _ | omega | with_reducible refine Ext.trans ?_ ‹Ext _ _›))))
        (first
          | (go_at_call 63; have hgd := u; clear hgd; refine (add_z (j1.zv.ext (by with_reducible repeat' first | exact Ext.refl _ | assumption | apply Ext.alloc_r | apply Ext.drew_r | apply Ext.drewN_r | refine Ext.trans ?_ ‹Ext _ _›)) (u.zv.ext (by with_reducible repeat' first | exact Ext.refl _ | assumption | apply Ext.alloc_r | apply Ext.drew_r | apply Ext.drewN_r | refine Ext.trans ?_ ‹Ext _ _›)) (by omega) (by rw [show dl (1 : Int).natAbs = dl 1 from rfl, dl_one]; omega)).mono ?_; rintro e w4 ⟨st, At, ct, Lt, rfl, t, x4⟩; (have zs4 := x4.size); (try simp only [World.size_alloc] at zs4); (try ((with_reducible have h4_0 := box_ext (vs := #[.bool false, .slice none 0 0]) x4); have h4_0c0 := (h4_0.1 0 (.bool false) rfl).1; have h4_0f0 := (h4_0.1 0 (.bool false) rfl).2; have h4_0c1 := (h4_0.1 1 (.slice none 0 0) rfl).1; have h4_0f1 := (h4_0.1 1 (.slice none 0 0) rfl).2; have h4_0b := h4_0.2.1; have h4_0z := h4_0.2.2; (try simp only [World.size_alloc] at h4_0b h4_0z h4_0c0 h4_0f0 h4_0c1 h4_0f1); have h4_0m := Nat.ne_of_lt h4_0z; have h4_0n := Nat.ne_of_gt h4_0z; clear h4_0)); (try (have hh : Ext w3 w4 := ?g400; (case g400 => ((with_reducible repeat' first | exact Ext.refl _ | assumption | apply Ext.alloc_r | apply Ext.drew_r | apply Ext.drewN_r | refine Ext.trans ?_ ‹Ext _ _›); done)); replace h3_0f0 := hh.frozen h3_0c0 h3_0f0; replace h3_0c0 := hh.cell h3_0c0; replace h3_0f1 := hh.frozen h3_0c1 h3_0f1; replace h3_0c1 := hh.cell h3_0c1; replace h3_0b := h3_0b.ext hh; have h3_0z2 := Nat.lt_of_lt_of_le h3_0z hh.size; have h3_0m2 := Nat.ne_of_lt h3_0z2; have h3_0n2 := Nat.ne_of_gt h3_0z2; clear hh)))
          | (go_at_call 56; refine (of_z (n := 1) (by omega)).mono ?_; rintro e w3 ⟨su, Au, cu, Lu, rfl, u, x3⟩; (have zs3 := x3.size); (try simp only [World.size_alloc, World.size_drew] at zs3); (try ((with_reducible have h3_0 := box_ext (vs := #[.bool false, .slice none 0 0]) ((Ext.drew _).trans x3)); have h3_0c0 := (h3_0.1 0 (.bool false) rfl).1; have h3_0f0 := (h3_0.1 0 (.bool false) rfl).2; have h3_0c1 := (h3_0.1 1 (.slice none 0 0) rfl).1; have h3_0f1 := (h3_0.1 1 (.slice none 0 0) rfl).2; have h3_0b := h3_0.2.1; have h3_0z := h3_0.2.2; (try simp only [World.size_alloc] at h3_0b h3_0z h3_0c0 h3_0f0 h3_0c1 h3_0f1); have h3_0m := Nat.ne_of_lt h3_0z; have h3_0n := Nat.ne_of_gt h3_0z; clear h3_0))))
    | fail
    all_goals (clear HK; go_wp2_with fail; go_meet)
    all_goals
      refine PutN.mk (sb := st) (A := At) (c := ct) (L := Lt) ?_ ?_ ?_ ?_ ?_ ?_ ((t.mono (Ext.size (by with_reducible repeat' first | exact Ext.refl _ | assumption | apply Ext.alloc_r | apply Ext.drew_r | apply Ext.drewN_r | refine Ext.trans ?_ ‹Ext _ _›))).kept ?_) ?_
      · (first | exact Nat.le_refl _ | omega | (simp only [World.size_alloc, World.size_drew]; omega) | (simp; omega))
      · (repeat' (first | with_reducible assumption | with_reducible apply IsBox.set_ | (with_reducible apply IsBox.new; (first | (with_reducible rfl) | simp); done) | with_reducible apply IsBox.alloc_ | with_reducible apply IsBox.drew_ | with_reducible refine IsBox.ext ?_ ‹Ext _ _›))
      · go_simp
      · go_simp
      · go_simp
      · go_simp
      · (repeat' (first | with_reducible exact Kept.refl _ | with_reducible apply Kept.alloc_r | with_reducible apply Kept.drew_r | (with_reducible apply Kept.setZ; (case hb => ((repeat' (first | with_reducible assumption | with_reducible apply IsBox.set_ | (with_reducible apply IsBox.new; (first | (with_reducible rfl) | simp); done) | with_reducible apply IsBox.alloc_ | with_reducible apply IsBox.drew_ | with_reducible refine IsBox.ext ?_ ‹Ext _ _›)); done))) | (with_reducible apply Kept.setI; (case hb => ((repeat' (first | with_reducible assumption | with_reducible apply IsBox.set_ | (with_reducible apply IsBox.new; (first | (with_reducible rfl) | simp); done) | with_reducible apply IsBox.alloc_ | with_reducible apply IsBox.drew_ | with_reducible refine IsBox.ext ?_ ‹Ext _ _›)); done))) | with_reducible refine Kept.trans ?_ (Ext.kept ‹Ext _ _›)))
      · (repeat' (first | with_reducible exact Ext.refl _ | with_reducible assumption | with_reducible apply Ext.alloc_r | with_reducible apply Ext.drew_r | with_reducible apply Ext.drewN_r | with_reducible apply Ext.set_r | with_reducible exact Nat.le_refl _ | omega | with_reducible refine Ext.trans ?_ ‹Ext _ _›))
  case rest =>
    obtain ⟨hszw0, szw1, szw2⟩ := HSZ.out.2
    clear kwh_0 kwh_1
    have hc_0 := hcut
    obtain ⟨bkk, sk, Ak, ck, Lk, rfl, hbk, hwk, k, xxk⟩ := hc_0
    have x5 := xxk
    clear xxk
    obtain ⟨w5, rfl⟩ : ∃ z : World, z = wc := ⟨_, rfl⟩
    have szw5 : w2.heap.size ≤ w5.heap.size := x5.size
    replace bxn := bxn.ext x5
    replace bxd := bxd.ext x5
    replace bxm := bxm.ext x5
    replace bxf := bxf.ext x5
    replace bxp := bxp.ext x5
    replace bxq := bxq.ext x5
    replace bxwh := bxwh.ext x5
    replace bxre := bxre.ext x5
    have lk_0 := hwk.c0
    have lk_1 := hwk.c1
    clear hwk
    have kn_0 := bxn.c 0 (.bool s1) rfl
    have kn_1 := bxn.c 1 (.slice A1 L1 c1) rfl
    have kd_0 := bxd.c 0 (.bool s2) rfl
    have kd_1 := bxd.c 1 (.slice A2 L2 c2) rfl
    have km_0 := bxm.c 0 (.bool s3) rfl
    have km_1 := bxm.c 1 (.slice A3 L3 c3) rfl
    have kf_0 := bxf.c 0 (.bool s4) rfl
    have kf_1 := bxf.c 1 (.slice A4 L4 c4) rfl
    have kp_0 := bxp.c 0 (.bool false) rfl
    have kp_1 := bxp.c 1 (.slice none 0 0) rfl
    have kq_0 := bxq.c 0 (.bool false) rfl
    have kq_1 := bxq.c 1 (.slice none 0 0) rfl
    have kwh_0 := bxwh.c 0 (.bool saj) rfl
    have kwh_1 := bxwh.c 1 (.slice Aaj Laj caj) rfl
    have kre_0 := bxre.c 0 (.bool sbj) rfl
    have kre_1 := bxre.c 1 (.slice Abj Lbj cbj) rfl
    go_wp2_with fail
    have HK : Hid (∀ w', Ext w5 w' → (w'.cell? ⟨w.heap.size + 1 + 1 + 1, 0, none⟩ = some (.bool s4) ∧ w'.cell? ⟨w.heap.size + 1 + 1 + 1, 1, none⟩ = some (.slice A4 L4 c4) ∧ w'.cell? ⟨w.heap.size + 1 + 1, 0, none⟩ = some (.bool s3) ∧ w'.cell? ⟨w.heap.size + 1 + 1, 1, none⟩ = some (.slice A3 L3 c3) ∧ w'.cell? ⟨bkk, 0, none⟩ = some (.bool sk) ∧ w'.cell? ⟨bkk, 1, none⟩ = some (.slice Ak Lk ck))) := fun w' hk => ⟨hk.cell kf_0, hk.cell kf_1, hk.cell km_0, hk.cell km_1, hk.cell lk_0, hk.cell lk_1⟩
    go_region_held3 (fun w' => w'.cell? ⟨w.heap.size + 1 + 1 + 1, 0, none⟩ = some (.bool s4) ∧ w'.cell? ⟨w.heap.size + 1 + 1 + 1, 1, none⟩ = some (.slice A4 L4 c4) ∧ w'.cell? ⟨w.heap.size + 1 + 1, 0, none⟩ = some (.bool s3) ∧ w'.cell? ⟨w.heap.size + 1 + 1, 1, none⟩ = some (.slice A3 L3 c3) ∧ w'.cell? ⟨bkk, 0, none⟩ = some (.bool sk) ∧ w'.cell? ⟨bkk, 1, none⟩ = some (.slice Ak Lk ck))
      ((with_reducible refine HK.out _ ?_; (with_reducible repeat' first | exact Ext.refl _ | assumption | apply Ext.alloc_r | apply Ext.drew_r | apply Ext.drewN_r | refine Ext.trans ?_ ‹Ext _ _›)))
      (first
        | (go_at_call 82; have hgd := y; clear hgd; refine (cmp_is (y.zv.ext (by with_reducible repeat' first | exact Ext.refl _ | assumption | apply Ext.alloc_r | apply Ext.drew_r | apply Ext.drewN_r | refine Ext.trans ?_ ‹Ext _ _›)) (g3.ext (by with_reducible repeat' first | exact Ext.refl _ | assumption | apply Ext.alloc_r | apply Ext.drew_r | apply Ext.drewN_r | refine Ext.trans ?_ ‹Ext _ _›)) hcm).mono ?_; rintro e w8 ⟨rfl, x8⟩)
        | (go_at_call 60; refine (mul_z (k.zv.ext (by with_reducible repeat' first | exact Ext.refl _ | assumption | apply Ext.alloc_r | apply Ext.drew_r | apply Ext.drewN_r | refine Ext.trans ?_ ‹Ext _ _›)) (g4.ext (by with_reducible repeat' first | exact Ext.refl _ | assumption | apply Ext.alloc_r | apply Ext.drew_r | apply Ext.drewN_r | refine Ext.trans ?_ ‹Ext _ _›)) (by omega) (by omega)).mono ?_; rintro e w7 ⟨sy, Ay, cy, Ly, rfl, y, x7⟩)
        | (go_at_call 33; refine (sign_is (g4.ext (by with_reducible repeat' first | exact Ext.refl _ | assumption | apply Ext.alloc_r | apply Ext.drew_r | apply Ext.drewN_r | refine Ext.trans ?_ ‹Ext _ _›)) hfs).mono ?_; rintro e w6 ⟨rfl, x6⟩))
    clear kn_0 kn_1 kd_0 kd_1 km_0 km_1 kf_0 kf_1 kp_0 kp_1 kq_0 kq_1 kwh_0 kwh_1 kre_0 kre_1
    clear HK
    have szw6 : w5.heap.size ≤ w6.heap.size := (show Ext w5 w6 from (by with_reducible repeat' first | exact Ext.refl _ | assumption | apply Ext.alloc_r | apply Ext.drew_r | apply Ext.drewN_r | refine Ext.trans ?_ ‹Ext _ _›)).size
    have szw7 : w5.heap.size ≤ w7.heap.size := (show Ext w5 w7 from (by with_reducible repeat' first | exact Ext.refl _ | assumption | apply Ext.alloc_r | apply Ext.drew_r | apply Ext.drewN_r | refine Ext.trans ?_ ‹Ext _ _›)).size
    have xhw8 : Ext w5 w8 := (by with_reducible repeat' first | exact Ext.refl _ | assumption | apply Ext.alloc_r | apply Ext.drew_r | apply Ext.drewN_r | refine Ext.trans ?_ ‹Ext _ _›)
    have szw8 : w5.heap.size ≤ w8.heap.size := xhw8.size
    replace bxn := bxn.ext xhw8
    replace bxd := bxd.ext xhw8
    replace bxm := bxm.ext xhw8
    replace bxf := bxf.ext xhw8
    replace bxp := bxp.ext xhw8
    replace bxq := bxq.ext xhw8
    replace bxwh := bxwh.ext xhw8
    replace bxre := bxre.ext xhw8
    replace lk_0 := xhw8.cell lk_0
    replace lk_1 := xhw8.cell lk_1
    clear y
    have kn_0 := bxn.c 0 (.bool s1) rfl
    have kn_1 := bxn.c 1 (.slice A1 L1 c1) rfl
    have kd_0 := bxd.c 0 (.bool s2) rfl
    have kd_1 := bxd.c 1 (.slice A2 L2 c2) rfl
    have km_0 := bxm.c 0 (.bool s3) rfl
    have km_1 := bxm.c 1 (.slice A3 L3 c3) rfl
    have kf_0 := bxf.c 0 (.bool s4) rfl
    have kf_1 := bxf.c 1 (.slice A4 L4 c4) rfl
    have kp_0 := bxp.c 0 (.bool false) rfl
    have fp_0 := bxp.f 0
    have kp_1 := bxp.c 1 (.slice none 0 0) rfl
    have fp_1 := bxp.f 1
    have kq_0 := bxq.c 0 (.bool false) rfl
    have fq_0 := bxq.f 0
    have kq_1 := bxq.c 1 (.slice none 0 0) rfl
    have fq_1 := bxq.f 1
    have kwh_0 := bxwh.c 0 (.bool saj) rfl
    have kwh_1 := bxwh.c 1 (.slice Aaj Laj caj) rfl
    have kre_0 := bxre.c 0 (.bool sbj) rfl
    have kre_1 := bxre.c 1 (.slice Abj Lbj cbj) rfl
    go_wp2_with fail
    have HK : Hid (∀ w', Ext w8 w' → (w'.cell? ⟨bkk, 0, none⟩ = some (.bool sk) ∧ w'.cell? ⟨bkk, 1, none⟩ = some (.slice Ak Lk ck))) := fun w' hk => ⟨hk.cell lk_0, hk.cell lk_1⟩
    have neplk : w.heap.size + 1 + 1 + 1 + 1 ≠ bkk := by omega
    have HSp : Hid (∀ (w' : World) (i : Nat) (u : Value), (w'.cell? ⟨bkk, 0, none⟩ = some (.bool sk) ∧ w'.cell? ⟨bkk, 1, none⟩ = some (.slice Ak Lk ck)) → ((fun (w' : World) => (w'.cell? ⟨bkk, 0, none⟩ = some (.bool sk) ∧ w'.cell? ⟨bkk, 1, none⟩ = some (.slice Ak Lk ck))) (w'.setCell ⟨w.heap.size + 1 + 1 + 1 + 1, i, none⟩ u))) := fun w' i u hs => ⟨cell_far neplk hs.1, cell_far neplk hs.2⟩
    have neqlk : w.heap.size + 1 + 1 + 1 + 1 + 1 ≠ bkk := by omega
    have HSq : Hid (∀ (w' : World) (i : Nat) (u : Value), (w'.cell? ⟨bkk, 0, none⟩ = some (.bool sk) ∧ w'.cell? ⟨bkk, 1, none⟩ = some (.slice Ak Lk ck)) → ((fun (w' : World) => (w'.cell? ⟨bkk, 0, none⟩ = some (.bool sk) ∧ w'.cell? ⟨bkk, 1, none⟩ = some (.slice Ak Lk ck))) (w'.setCell ⟨w.heap.size + 1 + 1 + 1 + 1 + 1, i, none⟩ u))) := fun w' i u hs => ⟨cell_far neqlk hs.1, cell_far neqlk hs.2⟩
    go_region_held3 (fun w' => w'.cell? ⟨bkk, 0, none⟩ = some (.bool sk) ∧ w'.cell? ⟨bkk, 1, none⟩ = some (.slice Ak Lk ck))
      (((repeat (first | (with_reducible refine HSp.out _ _ _ ?_) | (with_reducible refine HSq.out _ _ _ ?_))); (with_reducible refine HK.out _ ?_; (with_reducible repeat' first | exact Ext.refl _ | assumption | apply Ext.alloc_r | apply Ext.drew_r | apply Ext.drewN_r | refine Ext.trans ?_ ‹Ext _ _›))))
      (first
        | (go_at_call 56; refine (of_z (n := 1) (by omega)).mono ?_; rintro e w9 ⟨so, Ao, co, Lo, rfl, o, x9⟩; have yl : Ext w8 w9 := (by with_reducible repeat' first | exact Ext.refl _ | assumption | apply Ext.alloc_r | apply Ext.drew_r | apply Ext.drewN_r | refine Ext.trans ?_ ‹Ext _ _›); have cp_0 := (bxp.ext yl).c 0 (.bool false) rfl; have gp_0 := (bxp.ext yl).f 0; have cp_1 := (bxp.ext yl).c 1 (.slice none 0 0) rfl; have gp_1 := (bxp.ext yl).f 1; have cq_0 := (bxq.ext yl).c 0 (.bool false) rfl; have gq_0 := (bxq.ext yl).f 0; have cq_1 := (bxq.ext yl).c 1 (.slice none 0 0) rfl; have gq_1 := (bxq.ext yl).f 1))
    clear kn_0 kn_1 kd_0 kd_1 km_0 km_1 kf_0 kf_1 kp_0 fp_0 kp_1 fp_1 kq_0 fq_0 kq_1 fq_1 kwh_0 kwh_1 kre_0 kre_1
    clear HK HSp neplk HSq neqlk
    clear cp_0 gp_0
    clear cp_1 gp_1
    clear cq_0 gq_0
    clear cq_1 gq_1
    clear yl
    have xhw9 : Ext w8 w9 := (by with_reducible repeat' first | exact Ext.refl _ | assumption | apply Ext.alloc_r | apply Ext.drew_r | apply Ext.drewN_r | refine Ext.trans ?_ ‹Ext _ _›)
    have szw9 : w8.heap.size ≤ w9.heap.size := xhw9.size
    replace bxn := bxn.ext xhw9
    replace bxd := bxd.ext xhw9
    replace bxm := bxm.ext xhw9
    replace bxf := bxf.ext xhw9
    replace bxp := bxp.ext xhw9
    replace bxq := bxq.ext xhw9
    replace bxwh := bxwh.ext xhw9
    replace bxre := bxre.ext xhw9
    replace lk_0 := xhw9.cell lk_0
    replace lk_1 := xhw9.cell lk_1
    have zk := k.ext (show Ext _ w9 from (by with_reducible repeat' first | exact Ext.refl _ | assumption | apply Ext.alloc_r | apply Ext.drew_r | apply Ext.drewN_r | refine Ext.trans ?_ ‹Ext _ _›))
    have zo := o.mono (show w.heap.size ≤ _ by first | omega | (simp only [World.size_drew]; omega))
    clear k o
    obtain ⟨w10, hw⟩ : ∃ z : World, z = ((((w9.setCell ⟨w.heap.size + 1 + 1 + 1 + 1, 0, none⟩ (.bool sk)).setCell ⟨w.heap.size + 1 + 1 + 1 + 1, 1, none⟩ (.slice Ak Lk ck)).setCell ⟨w.heap.size + 1 + 1 + 1 + 1 + 1, 0, none⟩ (.bool so)).setCell ⟨w.heap.size + 1 + 1 + 1 + 1 + 1, 1, none⟩ (.slice Ao Lo co)) := ⟨_, rfl⟩
    rw [← hw]
    have kw10 : Kept w9 w10 := by rw [hw]; exact (Kept.set_ (Kept.set_ (Kept.set_ (Kept.set_ (Kept.refl _) bxp.isBox plain_int) (IsBox.set_ bxp.isBox) plain_int) (IsBox.set_ (IsBox.set_ bxq.isBox)) plain_int) (IsBox.set_ (IsBox.set_ (IsBox.set_ bxq.isBox))) plain_int)
    have nbn : BK w10 (w.heap.size) 25 #[.bool s1, .slice A1 L1 c1] := by rw [hw]; exact (BK.far (BK.far (BK.far (BK.far bxn (show w.heap.size ≠ w.heap.size + 1 + 1 + 1 + 1 by omega) 0 _) (show w.heap.size ≠ w.heap.size + 1 + 1 + 1 + 1 by omega) 1 _) (show w.heap.size ≠ w.heap.size + 1 + 1 + 1 + 1 + 1 by omega) 0 _) (show w.heap.size ≠ w.heap.size + 1 + 1 + 1 + 1 + 1 by omega) 1 _)
    have nbd : BK w10 (w.heap.size + 1) 25 #[.bool s2, .slice A2 L2 c2] := by rw [hw]; exact (BK.far (BK.far (BK.far (BK.far bxd (show w.heap.size + 1 ≠ w.heap.size + 1 + 1 + 1 + 1 by omega) 0 _) (show w.heap.size + 1 ≠ w.heap.size + 1 + 1 + 1 + 1 by omega) 1 _) (show w.heap.size + 1 ≠ w.heap.size + 1 + 1 + 1 + 1 + 1 by omega) 0 _) (show w.heap.size + 1 ≠ w.heap.size + 1 + 1 + 1 + 1 + 1 by omega) 1 _)
    have nbm : BK w10 (w.heap.size + 1 + 1) 25 #[.bool s3, .slice A3 L3 c3] := by rw [hw]; exact (BK.far (BK.far (BK.far (BK.far bxm (show w.heap.size + 1 + 1 ≠ w.heap.size + 1 + 1 + 1 + 1 by omega) 0 _) (show w.heap.size + 1 + 1 ≠ w.heap.size + 1 + 1 + 1 + 1 by omega) 1 _) (show w.heap.size + 1 + 1 ≠ w.heap.size + 1 + 1 + 1 + 1 + 1 by omega) 0 _) (show w.heap.size + 1 + 1 ≠ w.heap.size + 1 + 1 + 1 + 1 + 1 by omega) 1 _)
    have nbf : BK w10 (w.heap.size + 1 + 1 + 1) 25 #[.bool s4, .slice A4 L4 c4] := by rw [hw]; exact (BK.far (BK.far (BK.far (BK.far bxf (show w.heap.size + 1 + 1 + 1 ≠ w.heap.size + 1 + 1 + 1 + 1 by omega) 0 _) (show w.heap.size + 1 + 1 + 1 ≠ w.heap.size + 1 + 1 + 1 + 1 by omega) 1 _) (show w.heap.size + 1 + 1 + 1 ≠ w.heap.size + 1 + 1 + 1 + 1 + 1 by omega) 0 _) (show w.heap.size + 1 + 1 + 1 ≠ w.heap.size + 1 + 1 + 1 + 1 + 1 by omega) 1 _)
    have nbp : BK w10 (w.heap.size + 1 + 1 + 1 + 1) 25 #[.bool sk, .slice Ak Lk ck] := by rw [hw]; exact (BK.far (BK.far (BK.set (i := 1) (u := .slice Ak Lk ck) (vs' := #[.bool sk, .slice Ak Lk ck]) (BK.set (i := 0) (u := .bool sk) (vs' := #[.bool sk, .slice none 0 0]) bxp rfl) rfl) (show w.heap.size + 1 + 1 + 1 + 1 ≠ w.heap.size + 1 + 1 + 1 + 1 + 1 by omega) 0 _) (show w.heap.size + 1 + 1 + 1 + 1 ≠ w.heap.size + 1 + 1 + 1 + 1 + 1 by omega) 1 _)
    have nbq : BK w10 (w.heap.size + 1 + 1 + 1 + 1 + 1) 25 #[.bool so, .slice Ao Lo co] := by rw [hw]; exact (BK.set (i := 1) (u := .slice Ao Lo co) (vs' := #[.bool so, .slice Ao Lo co]) (BK.set (i := 0) (u := .bool so) (vs' := #[.bool so, .slice none 0 0]) (BK.far (BK.far bxq (show w.heap.size + 1 + 1 + 1 + 1 + 1 ≠ w.heap.size + 1 + 1 + 1 + 1 by omega) 0 _) (show w.heap.size + 1 + 1 + 1 + 1 + 1 ≠ w.heap.size + 1 + 1 + 1 + 1 by omega) 1 _) rfl) rfl)
    have nbwh : BK w10 (w1.heap.size) 25 #[.bool saj, .slice Aaj Laj caj] := by rw [hw]; exact (BK.far (BK.far (BK.far (BK.far bxwh (show w1.heap.size ≠ w.heap.size + 1 + 1 + 1 + 1 by omega) 0 _) (show w1.heap.size ≠ w.heap.size + 1 + 1 + 1 + 1 by omega) 1 _) (show w1.heap.size ≠ w.heap.size + 1 + 1 + 1 + 1 + 1 by omega) 0 _) (show w1.heap.size ≠ w.heap.size + 1 + 1 + 1 + 1 + 1 by omega) 1 _)
    have nbre : BK w10 (w1.heap.size + 1) 25 #[.bool sbj, .slice Abj Lbj cbj] := by rw [hw]; exact (BK.far (BK.far (BK.far (BK.far bxre (show w1.heap.size + 1 ≠ w.heap.size + 1 + 1 + 1 + 1 by omega) 0 _) (show w1.heap.size + 1 ≠ w.heap.size + 1 + 1 + 1 + 1 by omega) 1 _) (show w1.heap.size + 1 ≠ w.heap.size + 1 + 1 + 1 + 1 + 1 by omega) 0 _) (show w1.heap.size + 1 ≠ w.heap.size + 1 + 1 + 1 + 1 + 1 by omega) 1 _)
    have x10 : Ext w w10 := by rw [hw]; have hxp : Ext w w9 := (by with_reducible repeat' first | exact Ext.refl _ | assumption | apply Ext.alloc_r | apply Ext.drew_r | apply Ext.drewN_r | refine Ext.trans ?_ ‹Ext _ _›); exact (Ext.set_ (Ext.set_ (Ext.set_ (Ext.set_ hxp (show _ ≤ w.heap.size + 1 + 1 + 1 + 1 by omega)) (show _ ≤ w.heap.size + 1 + 1 + 1 + 1 by omega)) (show _ ≤ w.heap.size + 1 + 1 + 1 + 1 + 1 by omega)) (show _ ≤ w.heap.size + 1 + 1 + 1 + 1 + 1 by omega))
    clear bxn
    clear bxd
    clear bxm
    clear bxf
    clear bxp
    clear bxq
    clear bxwh
    clear bxre
    have bxn := nbn
    clear nbn
    have bxd := nbd
    clear nbd
    have bxm := nbm
    clear nbm
    have bxf := nbf
    clear nbf
    have bxp := nbp
    clear nbp
    have bxq := nbq
    clear nbq
    have bxwh := nbwh
    clear nbwh
    have bxre := nbre
    clear nbre
    have szw10 : w10.heap.size = w9.heap.size := by rw [hw]; simp
    replace zk := (zk.ext (by with_reducible repeat' first | exact Ext.refl _ | assumption | apply Ext.alloc_r | apply Ext.drew_r | apply Ext.drewN_r | refine Ext.trans ?_ ‹Ext _ _›)).kept kw10
    replace zo := (zo.ext (by with_reducible repeat' first | exact Ext.refl _ | assumption | apply Ext.alloc_r | apply Ext.drew_r | apply Ext.drewN_r | refine Ext.trans ?_ ‹Ext _ _›)).kept kw10
    clear hw kw10
    have HZ := Lib.hid (And.intro (zk.mono (show w.heap.size ≤ _ by first | omega | (simp only [World.size_drew]; omega))) zo)
    clear zk zo
    have kn_0 := bxn.c 0 (.bool s1) rfl
    have kn_1 := bxn.c 1 (.slice A1 L1 c1) rfl
    have kd_0 := bxd.c 0 (.bool s2) rfl
    have kd_1 := bxd.c 1 (.slice A2 L2 c2) rfl
    have km_0 := bxm.c 0 (.bool s3) rfl
    have km_1 := bxm.c 1 (.slice A3 L3 c3) rfl
    have kf_0 := bxf.c 0 (.bool s4) rfl
    have kf_1 := bxf.c 1 (.slice A4 L4 c4) rfl
    have kp_0 := bxp.c 0 (.bool sk) rfl
    have kp_1 := bxp.c 1 (.slice Ak Lk ck) rfl
    have kq_0 := bxq.c 0 (.bool so) rfl
    have kq_1 := bxq.c 1 (.slice Ao Lo co) rfl
    have kwh_0 := bxwh.c 0 (.bool saj) rfl
    have kwh_1 := bxwh.c 1 (.slice Aaj Laj caj) rfl
    have kre_0 := bxre.c 0 (.bool sbj) rfl
    have kre_1 := bxre.c 1 (.slice Abj Lbj cbj) rfl
    go_wp2_with fail
    clear kn_0 kn_1 kd_0 kd_1 km_0 km_1 kf_0 kf_1 kp_0 kp_1 kq_0 kq_1 kwh_0 kwh_1 kre_0 kre_1
    have kp_0 := bxp.c 0 (.bool sk) rfl
    have kp_1 := bxp.c 1 (.slice Ak Lk ck) rfl
    have kq_0 := bxq.c 0 (.bool so) rfl
    have kq_1 := bxq.c 1 (.slice Ao Lo co) rfl
    refine bodyPost_ret (v := .tuple #[.agg #[.bool sk, .slice Ak Lk ck], .agg #[.bool so, .slice Ao Lo co]]) (by simp [results, Try.results89, go_sem, kp_0, kp_1, kq_0, kq_1]) rfl ?_
    exact ⟨_, _, _, _, _, _, _, _, rfl, HZ.out.1, HZ.out.2, x10⟩
set_option maxHeartbeats 4000000 in
set_option maxRecDepth 100000 in
theorem between_go {w : World} {s1 s2 s3 s4 : Bool} {A1 A2 A3 A4 : Option Addr} {c1 c2 c3 c4 L1 L2 L3 L4 : Nat} {n d m f K W R : Nat} (h1 : ZV w s1 A1 c1 L1 (n : Int)) (h2 : ZV w s2 A2 c2 L2 (d : Int)) (h3 : ZV w s3 A3 c3 L3 (m : Int)) (h4 : ZV w s4 A4 c4 L4 (f : Int)) (hd : 0 < d) (b1 : dl n ≤ K) (b2 : dl d ≤ K) (b3 : dl m ≤ K) (b4 : dl f ≤ K) (hK : K ≤ 40) (hW : (W : Int) = (n : Int) / (d : Int)) (hR : (R : Int) = (n : Int) % (d : Int)) (bW : dl W ≤ K) (_bR : dl R ≤ K) (hf : 0 < f) (hlt : ¬ (W + 1) * f < m) {G P S : Nat} (hG : (m : Int) - (W : Int) * (f : Int) = (G : Int)) (bP : dl P ≤ 100) (bS : dl S ≤ 100) (hih : ∀ w' {s1 s2 s3 s4 : Bool} {A1 A2 A3 A4 : Option Addr} {c1 c2 c3 c4 L1 L2 L3 L4 : Nat}, ZV w' s1 A1 c1 L1 (f : Int) → ZV w' s2 A2 c2 L2 (G : Int) → ZV w' s3 A3 c3 L3 (d : Int) → ZV w' s4 A4 c4 L4 (R : Int) → Calls Try.prog 89 #[Value.agg #[.bool s1, .slice A1 L1 c1], Value.agg #[.bool s2, .slice A2 L2 c2], Value.agg #[.bool s3, .slice A3 L3 c3], Value.agg #[.bool s4, .slice A4 L4 c4]] w' (RetB2 w' (P : Int) (S : Int))) :
    Calls Try.prog 89 #[Value.agg #[.bool s1, .slice A1 L1 c1], Value.agg #[.bool s2, .slice A2 L2 c2], Value.agg #[.bool s3, .slice A3 L3 c3], Value.agg #[.bool s4, .slice A4 L4 c4]] w (RetB2 w ((W : Int) * (P : Int) + (S : Int)) (P : Int)) := by
  have HFL : Hid (∀ w' {s1 s2 : Bool} {A1 A2 : Option Addr} {c1 c2 L1 L2 : Nat}, ZV w' s1 A1 c1 L1 (n : Int) → ZV w' s2 A2 c2 L2 (d : Int) → Calls Try.prog 62 #[.agg #[.bool s1, .slice A1 L1 c1], .agg #[.bool s2, .slice A2 L2 c2]] w' (RetQR w' (W : Int) (R : Int))) := fun w' _ _ _ _ _ _ _ _ g1 g2 => by
    have h5 := floor_z g1 g2 (by omega) (by rw [Int.natAbs_natCast]; omega) (by rw [Int.natAbs_natCast]; omega)
    rw [hW, hR]
    exact h5
  clear hW hR
  have e1 : dl (W : Int).natAbs = dl W := by rw [Int.natAbs_natCast]
  have e2 : dl (R : Int).natAbs = dl R := by rw [Int.natAbs_natCast]
  have e3 : dl (f : Int).natAbs = dl f := by rw [Int.natAbs_natCast]
  have e4 : dl (m : Int).natAbs = dl m := by rw [Int.natAbs_natCast]
  have e5 : dl ((W : Int) + 1).natAbs ≤ K + 2 := by
    have h5 := dlz_add (W : Int) 1
    rw [show dl (1 : Int).natAbs = dl 1 from rfl, dl_one] at h5
    omega
  obtain ⟨C, hC⟩ : ∃ C : Int, C = cmpZ (((W : Int) + 1) * (f : Int)) (m : Int) := ⟨_, rfl⟩
  have hcn : ¬ C < 0 := by
    rw [hC]
    have h5 : ¬ ((W : Int) + 1) * (f : Int) < (m : Int) := fun h => hlt (by exact_mod_cast h)
    unfold cmpZ
    rw [if_neg h5]
    split <;> omega
  have hfs : ((f : Int)).sign = 1 := Int.sign_eq_one_of_pos (by omega)
  have e6 : dl (P : Int).natAbs ≤ 100 := by rw [Int.natAbs_natCast]; exact bP
  have e7 : dl (S : Int).natAbs ≤ 100 := by rw [Int.natAbs_natCast]; exact bS
  have e8 := dlz_mul (W : Int) (f : Int)
  have e9 := dlz_mul (W : Int) (P : Int)
  have HIH := Lib.hid hih
  have HC := Lib.hid hC
  clear hf hlt hih hC bP bS
  go_enter Try.func89, Try.ntmps89
  go_wp2_with fail
  obtain ⟨w0, hw0⟩ : ∃ z : World, z = ((((((w.alloc (.cells #[.bool s1, .slice A1 L1 c1] 25)).alloc (.cells #[.bool s2, .slice A2 L2 c2] 25)).alloc (.cells #[.bool s3, .slice A3 L3 c3] 25)).alloc (.cells #[.bool s4, .slice A4 L4 c4] 25)).alloc (.cells #[.bool false, .slice none 0 0] 25)).alloc (.cells #[.bool false, .slice none 0 0] 25)) := ⟨_, rfl⟩
  rw [← hw0]
  have bxn : BK w0 (w.heap.size) 25 #[.bool s1, .slice A1 L1 c1] := by rw [hw0]; have h5 := (BK.ext (BK.ext (BK.ext (BK.ext (BK.ext (BK.new w #[.bool s1, .slice A1 L1 c1] 25) (Ext.alloc _ (.cells #[.bool s2, .slice A2 L2 c2] 25))) (Ext.alloc _ (.cells #[.bool s3, .slice A3 L3 c3] 25))) (Ext.alloc _ (.cells #[.bool s4, .slice A4 L4 c4] 25))) (Ext.alloc _ (.cells #[.bool false, .slice none 0 0] 25))) (Ext.alloc _ (.cells #[.bool false, .slice none 0 0] 25))); simpa only [World.size_alloc] using h5
  have bxd : BK w0 (w.heap.size + 1) 25 #[.bool s2, .slice A2 L2 c2] := by rw [hw0]; have h5 := (BK.ext (BK.ext (BK.ext (BK.ext (BK.new (w.alloc (.cells #[.bool s1, .slice A1 L1 c1] 25)) #[.bool s2, .slice A2 L2 c2] 25) (Ext.alloc _ (.cells #[.bool s3, .slice A3 L3 c3] 25))) (Ext.alloc _ (.cells #[.bool s4, .slice A4 L4 c4] 25))) (Ext.alloc _ (.cells #[.bool false, .slice none 0 0] 25))) (Ext.alloc _ (.cells #[.bool false, .slice none 0 0] 25))); simpa only [World.size_alloc] using h5
  have bxm : BK w0 (w.heap.size + 1 + 1) 25 #[.bool s3, .slice A3 L3 c3] := by rw [hw0]; have h5 := (BK.ext (BK.ext (BK.ext (BK.new ((w.alloc (.cells #[.bool s1, .slice A1 L1 c1] 25)).alloc (.cells #[.bool s2, .slice A2 L2 c2] 25)) #[.bool s3, .slice A3 L3 c3] 25) (Ext.alloc _ (.cells #[.bool s4, .slice A4 L4 c4] 25))) (Ext.alloc _ (.cells #[.bool false, .slice none 0 0] 25))) (Ext.alloc _ (.cells #[.bool false, .slice none 0 0] 25))); simpa only [World.size_alloc] using h5
  have bxf : BK w0 (w.heap.size + 1 + 1 + 1) 25 #[.bool s4, .slice A4 L4 c4] := by rw [hw0]; have h5 := (BK.ext (BK.ext (BK.new (((w.alloc (.cells #[.bool s1, .slice A1 L1 c1] 25)).alloc (.cells #[.bool s2, .slice A2 L2 c2] 25)).alloc (.cells #[.bool s3, .slice A3 L3 c3] 25)) #[.bool s4, .slice A4 L4 c4] 25) (Ext.alloc _ (.cells #[.bool false, .slice none 0 0] 25))) (Ext.alloc _ (.cells #[.bool false, .slice none 0 0] 25))); simpa only [World.size_alloc] using h5
  have bxp : BK w0 (w.heap.size + 1 + 1 + 1 + 1) 25 #[.bool false, .slice none 0 0] := by rw [hw0]; have h5 := (BK.ext (BK.new ((((w.alloc (.cells #[.bool s1, .slice A1 L1 c1] 25)).alloc (.cells #[.bool s2, .slice A2 L2 c2] 25)).alloc (.cells #[.bool s3, .slice A3 L3 c3] 25)).alloc (.cells #[.bool s4, .slice A4 L4 c4] 25)) #[.bool false, .slice none 0 0] 25) (Ext.alloc _ (.cells #[.bool false, .slice none 0 0] 25))); simpa only [World.size_alloc] using h5
  have bxq : BK w0 (w.heap.size + 1 + 1 + 1 + 1 + 1) 25 #[.bool false, .slice none 0 0] := by rw [hw0]; have h5 := (BK.new (((((w.alloc (.cells #[.bool s1, .slice A1 L1 c1] 25)).alloc (.cells #[.bool s2, .slice A2 L2 c2] 25)).alloc (.cells #[.bool s3, .slice A3 L3 c3] 25)).alloc (.cells #[.bool s4, .slice A4 L4 c4] 25)).alloc (.cells #[.bool false, .slice none 0 0] 25)) #[.bool false, .slice none 0 0] 25); simpa only [World.size_alloc] using h5
  have hszw0 : w0.heap.size = w.heap.size + 1 + 1 + 1 + 1 + 1 + 1 := by rw [hw0]; simp only [World.size_alloc]
  have xw0 : Ext w w0 := by rw [hw0]; exact ((((((Ext.alloc _ _).trans (Ext.alloc _ _)).trans (Ext.alloc _ _)).trans (Ext.alloc _ _)).trans (Ext.alloc _ _)).trans (Ext.alloc _ _))
  clear hw0
  have g1 := h1.ext xw0
  have g2 := h2.ext xw0
  have g3 := h3.ext xw0
  have g4 := h4.ext xw0
  clear h1 h2 h3 h4
  refine (HFL.out _ (g1.ext (by with_reducible repeat' first | exact Ext.refl _ | assumption | apply Ext.alloc_r | apply Ext.drew_r | apply Ext.drewN_r | refine Ext.trans ?_ ‹Ext _ _›)) (g2.ext (by with_reducible repeat' first | exact Ext.refl _ | assumption | apply Ext.alloc_r | apply Ext.drew_r | apply Ext.drewN_r | refine Ext.trans ?_ ‹Ext _ _›))).mono ?_
  rintro e w1 ⟨saj, Aaj, caj, Laj, sbj, Abj, cbj, Lbj, rfl, ja, jb, x1⟩
  have szw1 : w0.heap.size ≤ w1.heap.size := x1.size
  replace bxn := bxn.ext x1
  replace bxd := bxd.ext x1
  replace bxm := bxm.ext x1
  replace bxf := bxf.ext x1
  replace bxp := bxp.ext x1
  replace bxq := bxq.ext x1
  have HJ := Lib.hid (And.intro ja jb)
  clear ja jb g1
  have kn_0 := bxn.c 0 (.bool s1) rfl
  have kn_1 := bxn.c 1 (.slice A1 L1 c1) rfl
  have kd_0 := bxd.c 0 (.bool s2) rfl
  have kd_1 := bxd.c 1 (.slice A2 L2 c2) rfl
  have km_0 := bxm.c 0 (.bool s3) rfl
  have km_1 := bxm.c 1 (.slice A3 L3 c3) rfl
  have kf_0 := bxf.c 0 (.bool s4) rfl
  have kf_1 := bxf.c 1 (.slice A4 L4 c4) rfl
  have kp_0 := bxp.c 0 (.bool false) rfl
  have kp_1 := bxp.c 1 (.slice none 0 0) rfl
  have kq_0 := bxq.c 0 (.bool false) rfl
  have kq_1 := bxq.c 1 (.slice none 0 0) rfl
  have t1n_0 := fun (o0 : Obj) => ((Ext.alloc w1 o0).cell (bxn.c 0 (.bool s1) rfl))
  have t2n_0 := fun (o0 : Obj) (o1 : Obj) => ((Ext.alloc (w1.alloc o0) o1).cell ((Ext.alloc w1 o0).cell (bxn.c 0 (.bool s1) rfl)))
  have t1n_1 := fun (o0 : Obj) => ((Ext.alloc w1 o0).cell (bxn.c 1 (.slice A1 L1 c1) rfl))
  have t2n_1 := fun (o0 : Obj) (o1 : Obj) => ((Ext.alloc (w1.alloc o0) o1).cell ((Ext.alloc w1 o0).cell (bxn.c 1 (.slice A1 L1 c1) rfl)))
  have t1d_0 := fun (o0 : Obj) => ((Ext.alloc w1 o0).cell (bxd.c 0 (.bool s2) rfl))
  have t2d_0 := fun (o0 : Obj) (o1 : Obj) => ((Ext.alloc (w1.alloc o0) o1).cell ((Ext.alloc w1 o0).cell (bxd.c 0 (.bool s2) rfl)))
  have t1d_1 := fun (o0 : Obj) => ((Ext.alloc w1 o0).cell (bxd.c 1 (.slice A2 L2 c2) rfl))
  have t2d_1 := fun (o0 : Obj) (o1 : Obj) => ((Ext.alloc (w1.alloc o0) o1).cell ((Ext.alloc w1 o0).cell (bxd.c 1 (.slice A2 L2 c2) rfl)))
  have t1m_0 := fun (o0 : Obj) => ((Ext.alloc w1 o0).cell (bxm.c 0 (.bool s3) rfl))
  have t2m_0 := fun (o0 : Obj) (o1 : Obj) => ((Ext.alloc (w1.alloc o0) o1).cell ((Ext.alloc w1 o0).cell (bxm.c 0 (.bool s3) rfl)))
  have t1m_1 := fun (o0 : Obj) => ((Ext.alloc w1 o0).cell (bxm.c 1 (.slice A3 L3 c3) rfl))
  have t2m_1 := fun (o0 : Obj) (o1 : Obj) => ((Ext.alloc (w1.alloc o0) o1).cell ((Ext.alloc w1 o0).cell (bxm.c 1 (.slice A3 L3 c3) rfl)))
  have t1f_0 := fun (o0 : Obj) => ((Ext.alloc w1 o0).cell (bxf.c 0 (.bool s4) rfl))
  have t2f_0 := fun (o0 : Obj) (o1 : Obj) => ((Ext.alloc (w1.alloc o0) o1).cell ((Ext.alloc w1 o0).cell (bxf.c 0 (.bool s4) rfl)))
  have t1f_1 := fun (o0 : Obj) => ((Ext.alloc w1 o0).cell (bxf.c 1 (.slice A4 L4 c4) rfl))
  have t2f_1 := fun (o0 : Obj) (o1 : Obj) => ((Ext.alloc (w1.alloc o0) o1).cell ((Ext.alloc w1 o0).cell (bxf.c 1 (.slice A4 L4 c4) rfl)))
  have t1p_0 := fun (o0 : Obj) => ((Ext.alloc w1 o0).cell (bxp.c 0 (.bool false) rfl))
  have t2p_0 := fun (o0 : Obj) (o1 : Obj) => ((Ext.alloc (w1.alloc o0) o1).cell ((Ext.alloc w1 o0).cell (bxp.c 0 (.bool false) rfl)))
  have t1p_1 := fun (o0 : Obj) => ((Ext.alloc w1 o0).cell (bxp.c 1 (.slice none 0 0) rfl))
  have t2p_1 := fun (o0 : Obj) (o1 : Obj) => ((Ext.alloc (w1.alloc o0) o1).cell ((Ext.alloc w1 o0).cell (bxp.c 1 (.slice none 0 0) rfl)))
  have t1q_0 := fun (o0 : Obj) => ((Ext.alloc w1 o0).cell (bxq.c 0 (.bool false) rfl))
  have t2q_0 := fun (o0 : Obj) (o1 : Obj) => ((Ext.alloc (w1.alloc o0) o1).cell ((Ext.alloc w1 o0).cell (bxq.c 0 (.bool false) rfl)))
  have t1q_1 := fun (o0 : Obj) => ((Ext.alloc w1 o0).cell (bxq.c 1 (.slice none 0 0) rfl))
  have t2q_1 := fun (o0 : Obj) (o1 : Obj) => ((Ext.alloc (w1.alloc o0) o1).cell ((Ext.alloc w1 o0).cell (bxq.c 1 (.slice none 0 0) rfl)))
  go_wp2_with fail
  clear kn_0 kn_1 kd_0 kd_1 km_0 km_1 kf_0 kf_1 kp_0 kp_1 kq_0 kq_1 t1n_0 t2n_0 t1n_1 t2n_1 t1d_0 t2d_0 t1d_1 t2d_1 t1m_0 t2m_0 t1m_1 t2m_1 t1f_0 t2f_0 t1f_1 t2f_1 t1p_0 t2p_0 t1p_1 t2p_1 t1q_0 t2q_0 t1q_1 t2q_1
  obtain ⟨w2, hw⟩ : ∃ z : World, z = ((w1.alloc (.cells #[.bool saj, .slice Aaj Laj caj] 25)).alloc (.cells #[.bool sbj, .slice Abj Lbj cbj] 25)) := ⟨_, rfl⟩
  rw [← hw]
  have x2 : Ext w1 w2 := by rw [hw]; exact ((Ext.alloc _ _).trans (Ext.alloc _ _))
  replace bxn := bxn.ext x2
  replace bxd := bxd.ext x2
  replace bxm := bxm.ext x2
  replace bxf := bxf.ext x2
  replace bxp := bxp.ext x2
  replace bxq := bxq.ext x2
  have bxwh : BK w2 (w1.heap.size) 25 #[.bool saj, .slice Aaj Laj caj] := by rw [hw]; have h5 := (BK.ext (BK.new w1 #[.bool saj, .slice Aaj Laj caj] 25) (Ext.alloc _ (.cells #[.bool sbj, .slice Abj Lbj cbj] 25))); simpa only [World.size_alloc] using h5
  have bxre : BK w2 (w1.heap.size + 1) 25 #[.bool sbj, .slice Abj Lbj cbj] := by rw [hw]; have h5 := (BK.new (w1.alloc (.cells #[.bool saj, .slice Aaj Laj caj] 25)) #[.bool sbj, .slice Abj Lbj cbj] 25); simpa only [World.size_alloc] using h5
  have szw2 : w2.heap.size = w1.heap.size + 1 + 1 := by rw [hw]; simp only [World.size_alloc]
  clear hw
  have j1 := HJ.out.1.ext (show Ext _ w2 from (by with_reducible repeat' first | exact Ext.refl _ | assumption | apply Ext.alloc_r | apply Ext.drew_r | apply Ext.drewN_r | refine Ext.trans ?_ ‹Ext _ _›))
  have j2 := HJ.out.2.ext (show Ext _ w2 from (by with_reducible repeat' first | exact Ext.refl _ | assumption | apply Ext.alloc_r | apply Ext.drew_r | apply Ext.drewN_r | refine Ext.trans ?_ ‹Ext _ _›))
  clear HJ
  have kwh_0 := bxwh.c 0 (.bool saj) rfl
  have kwh_1 := bxwh.c 1 (.slice Aaj Laj caj) rfl
  have HSZ := Lib.hid (And.intro True.intro (And.intro hszw0 (And.intro szw1 szw2)))
  clear hszw0 szw1 szw2
  go_wp2_with fail
  go_cut [13] (fun s13 wx => PutN w2 wx ((W : Int) + 1) s13)
  case first =>
    have HK : Hid (∀ w', Ext w2 w' → Ext w2 w' ∧ w'.cell? ⟨w1.heap.size, 0, none⟩ = some (.bool saj) ∧ w'.cell? ⟨w1.heap.size, 1, none⟩ = some (.slice Aaj Laj caj)) := fun w' hk => ⟨hk, hk.cell kwh_0, hk.cell kwh_1⟩
    first
    | go_region_held3 (fun w' => Ext w2 w' ∧ w'.cell? ⟨w1.heap.size, 0, none⟩ = some (.bool saj) ∧ w'.cell? ⟨w1.heap.size, 1, none⟩ = some (.slice Aaj Laj caj))
        ((with_reducible refine HK.out _ ?_; (repeat' (first | with_reducible exact Ext.refl _ | with_reducible assumption | with_reducible apply Ext.alloc_r | with_reducible apply Ext.drew_r | with_reducible apply Ext.drewN_r | with_reducible apply Ext.set_r | with_reducible exact Nat.le_refl _ | omega | with_reducible refine Ext.trans ?_ ‹Ext _ _›))))
        (first
          | (go_at_call 63; have hgd := u; clear hgd; refine (add_z (j1.zv.ext (by with_reducible repeat' first | exact Ext.refl _ | assumption | apply Ext.alloc_r | apply Ext.drew_r | apply Ext.drewN_r | refine Ext.trans ?_ ‹Ext _ _›)) (u.zv.ext (by with_reducible repeat' first | exact Ext.refl _ | assumption | apply Ext.alloc_r | apply Ext.drew_r | apply Ext.drewN_r | refine Ext.trans ?_ ‹Ext _ _›)) (by omega) (by rw [show dl (1 : Int).natAbs = dl 1 from rfl, dl_one]; omega)).mono ?_; rintro e w4 ⟨st, At, ct, Lt, rfl, t, x4⟩; (have zs4 := x4.size); (try simp only [World.size_alloc] at zs4); (try ((with_reducible have h4_0 := box_ext (vs := #[.bool false, .slice none 0 0]) x4); have h4_0c0 := (h4_0.1 0 (.bool false) rfl).1; have h4_0f0 := (h4_0.1 0 (.bool false) rfl).2; have h4_0c1 := (h4_0.1 1 (.slice none 0 0) rfl).1; have h4_0f1 := (h4_0.1 1 (.slice none 0 0) rfl).2; have h4_0b := h4_0.2.1; have h4_0z := h4_0.2.2; (try simp only [World.size_alloc] at h4_0b h4_0z h4_0c0 h4_0f0 h4_0c1 h4_0f1); have h4_0m := Nat.ne_of_lt h4_0z; have h4_0n := Nat.ne_of_gt h4_0z; clear h4_0)); (try (have hh : Ext w3 w4 := ?g400; (case g400 => ((with_reducible repeat' first | exact Ext.refl _ | assumption | apply Ext.alloc_r | apply Ext.drew_r | apply Ext.drewN_r | refine Ext.trans ?_ ‹Ext _ _›); done)); replace h3_0f0 := hh.frozen h3_0c0 h3_0f0; replace h3_0c0 := hh.cell h3_0c0; replace h3_0f1 := hh.frozen h3_0c1 h3_0f1; replace h3_0c1 := hh.cell h3_0c1; replace h3_0b := h3_0b.ext hh; have h3_0z2 := Nat.lt_of_lt_of_le h3_0z hh.size; have h3_0m2 := Nat.ne_of_lt h3_0z2; have h3_0n2 := Nat.ne_of_gt h3_0z2; clear hh)))
          | (go_at_call 56; refine (of_z (n := 1) (by omega)).mono ?_; rintro e w3 ⟨su, Au, cu, Lu, rfl, u, x3⟩; (have zs3 := x3.size); (try simp only [World.size_alloc, World.size_drew] at zs3); (try ((with_reducible have h3_0 := box_ext (vs := #[.bool false, .slice none 0 0]) ((Ext.drew _).trans x3)); have h3_0c0 := (h3_0.1 0 (.bool false) rfl).1; have h3_0f0 := (h3_0.1 0 (.bool false) rfl).2; have h3_0c1 := (h3_0.1 1 (.slice none 0 0) rfl).1; have h3_0f1 := (h3_0.1 1 (.slice none 0 0) rfl).2; have h3_0b := h3_0.2.1; have h3_0z := h3_0.2.2; (try simp only [World.size_alloc] at h3_0b h3_0z h3_0c0 h3_0f0 h3_0c1 h3_0f1); have h3_0m := Nat.ne_of_lt h3_0z; have h3_0n := Nat.ne_of_gt h3_0z; clear h3_0))))
    | fail
    all_goals (clear HK; go_wp2_with fail; go_meet)
    all_goals
      refine PutN.mk (sb := st) (A := At) (c := ct) (L := Lt) ?_ ?_ ?_ ?_ ?_ ?_ ((t.mono (Ext.size (by with_reducible repeat' first | exact Ext.refl _ | assumption | apply Ext.alloc_r | apply Ext.drew_r | apply Ext.drewN_r | refine Ext.trans ?_ ‹Ext _ _›))).kept ?_) ?_
      · (first | exact Nat.le_refl _ | omega | (simp only [World.size_alloc, World.size_drew]; omega) | (simp; omega))
      · (repeat' (first | with_reducible assumption | with_reducible apply IsBox.set_ | (with_reducible apply IsBox.new; (first | (with_reducible rfl) | simp); done) | with_reducible apply IsBox.alloc_ | with_reducible apply IsBox.drew_ | with_reducible refine IsBox.ext ?_ ‹Ext _ _›))
      · go_simp
      · go_simp
      · go_simp
      · go_simp
      · (repeat' (first | with_reducible exact Kept.refl _ | with_reducible apply Kept.alloc_r | with_reducible apply Kept.drew_r | (with_reducible apply Kept.setZ; (case hb => ((repeat' (first | with_reducible assumption | with_reducible apply IsBox.set_ | (with_reducible apply IsBox.new; (first | (with_reducible rfl) | simp); done) | with_reducible apply IsBox.alloc_ | with_reducible apply IsBox.drew_ | with_reducible refine IsBox.ext ?_ ‹Ext _ _›)); done))) | (with_reducible apply Kept.setI; (case hb => ((repeat' (first | with_reducible assumption | with_reducible apply IsBox.set_ | (with_reducible apply IsBox.new; (first | (with_reducible rfl) | simp); done) | with_reducible apply IsBox.alloc_ | with_reducible apply IsBox.drew_ | with_reducible refine IsBox.ext ?_ ‹Ext _ _›)); done))) | with_reducible refine Kept.trans ?_ (Ext.kept ‹Ext _ _›)))
      · (repeat' (first | with_reducible exact Ext.refl _ | with_reducible assumption | with_reducible apply Ext.alloc_r | with_reducible apply Ext.drew_r | with_reducible apply Ext.drewN_r | with_reducible apply Ext.set_r | with_reducible exact Nat.le_refl _ | omega | with_reducible refine Ext.trans ?_ ‹Ext _ _›))
  case rest =>
    obtain ⟨hszw0, szw1, szw2⟩ := HSZ.out.2
    clear kwh_0 kwh_1
    have hc_0 := hcut
    obtain ⟨bkk, sk, Ak, ck, Lk, rfl, hbk, hwk, k, xxk⟩ := hc_0
    have x5 := xxk
    clear xxk
    obtain ⟨w5, rfl⟩ : ∃ z : World, z = wc := ⟨_, rfl⟩
    have szw5 : w2.heap.size ≤ w5.heap.size := x5.size
    replace bxn := bxn.ext x5
    replace bxd := bxd.ext x5
    replace bxm := bxm.ext x5
    replace bxf := bxf.ext x5
    replace bxp := bxp.ext x5
    replace bxq := bxq.ext x5
    replace bxwh := bxwh.ext x5
    replace bxre := bxre.ext x5
    have lk_0 := hwk.c0
    have lk_1 := hwk.c1
    clear hwk
    have kn_0 := bxn.c 0 (.bool s1) rfl
    have kn_1 := bxn.c 1 (.slice A1 L1 c1) rfl
    have kd_0 := bxd.c 0 (.bool s2) rfl
    have kd_1 := bxd.c 1 (.slice A2 L2 c2) rfl
    have km_0 := bxm.c 0 (.bool s3) rfl
    have km_1 := bxm.c 1 (.slice A3 L3 c3) rfl
    have kf_0 := bxf.c 0 (.bool s4) rfl
    have kf_1 := bxf.c 1 (.slice A4 L4 c4) rfl
    have kp_0 := bxp.c 0 (.bool false) rfl
    have kp_1 := bxp.c 1 (.slice none 0 0) rfl
    have kq_0 := bxq.c 0 (.bool false) rfl
    have kq_1 := bxq.c 1 (.slice none 0 0) rfl
    have kwh_0 := bxwh.c 0 (.bool saj) rfl
    have kwh_1 := bxwh.c 1 (.slice Aaj Laj caj) rfl
    have kre_0 := bxre.c 0 (.bool sbj) rfl
    have kre_1 := bxre.c 1 (.slice Abj Lbj cbj) rfl
    go_wp2_with fail
    have HK : Hid (∀ w', Ext w5 w' → (w'.cell? ⟨w.heap.size + 1 + 1 + 1, 0, none⟩ = some (.bool s4) ∧ w'.cell? ⟨w.heap.size + 1 + 1 + 1, 1, none⟩ = some (.slice A4 L4 c4) ∧ w'.cell? ⟨w.heap.size + 1 + 1, 0, none⟩ = some (.bool s3) ∧ w'.cell? ⟨w.heap.size + 1 + 1, 1, none⟩ = some (.slice A3 L3 c3) ∧ w'.cell? ⟨bkk, 0, none⟩ = some (.bool sk) ∧ w'.cell? ⟨bkk, 1, none⟩ = some (.slice Ak Lk ck))) := fun w' hk => ⟨hk.cell kf_0, hk.cell kf_1, hk.cell km_0, hk.cell km_1, hk.cell lk_0, hk.cell lk_1⟩
    go_region_held3 (fun w' => w'.cell? ⟨w.heap.size + 1 + 1 + 1, 0, none⟩ = some (.bool s4) ∧ w'.cell? ⟨w.heap.size + 1 + 1 + 1, 1, none⟩ = some (.slice A4 L4 c4) ∧ w'.cell? ⟨w.heap.size + 1 + 1, 0, none⟩ = some (.bool s3) ∧ w'.cell? ⟨w.heap.size + 1 + 1, 1, none⟩ = some (.slice A3 L3 c3) ∧ w'.cell? ⟨bkk, 0, none⟩ = some (.bool sk) ∧ w'.cell? ⟨bkk, 1, none⟩ = some (.slice Ak Lk ck))
      ((with_reducible refine HK.out _ ?_; (with_reducible repeat' first | exact Ext.refl _ | assumption | apply Ext.alloc_r | apply Ext.drew_r | apply Ext.drewN_r | refine Ext.trans ?_ ‹Ext _ _›)))
      (first
        | (go_at_call 82; have hgd := y; clear hgd; refine (cmp_is (y.zv.ext (by with_reducible repeat' first | exact Ext.refl _ | assumption | apply Ext.alloc_r | apply Ext.drew_r | apply Ext.drewN_r | refine Ext.trans ?_ ‹Ext _ _›)) (g3.ext (by with_reducible repeat' first | exact Ext.refl _ | assumption | apply Ext.alloc_r | apply Ext.drew_r | apply Ext.drewN_r | refine Ext.trans ?_ ‹Ext _ _›)) HC.out.symm).mono ?_; rintro e w8 ⟨rfl, x8⟩)
        | (go_at_call 60; refine (mul_z (k.zv.ext (by with_reducible repeat' first | exact Ext.refl _ | assumption | apply Ext.alloc_r | apply Ext.drew_r | apply Ext.drewN_r | refine Ext.trans ?_ ‹Ext _ _›)) (g4.ext (by with_reducible repeat' first | exact Ext.refl _ | assumption | apply Ext.alloc_r | apply Ext.drew_r | apply Ext.drewN_r | refine Ext.trans ?_ ‹Ext _ _›)) (by omega) (by omega)).mono ?_; rintro e w7 ⟨sy, Ay, cy, Ly, rfl, y, x7⟩)
        | (go_at_call 33; refine (sign_is (g4.ext (by with_reducible repeat' first | exact Ext.refl _ | assumption | apply Ext.alloc_r | apply Ext.drew_r | apply Ext.drewN_r | refine Ext.trans ?_ ‹Ext _ _›)) hfs).mono ?_; rintro e w6 ⟨rfl, x6⟩))
    clear kn_0 kn_1 kd_0 kd_1 km_0 km_1 kf_0 kf_1 kp_0 kp_1 kq_0 kq_1 kwh_0 kwh_1 kre_0 kre_1
    clear HK
    have szw6 : w5.heap.size ≤ w6.heap.size := (show Ext w5 w6 from (by with_reducible repeat' first | exact Ext.refl _ | assumption | apply Ext.alloc_r | apply Ext.drew_r | apply Ext.drewN_r | refine Ext.trans ?_ ‹Ext _ _›)).size
    have szw7 : w5.heap.size ≤ w7.heap.size := (show Ext w5 w7 from (by with_reducible repeat' first | exact Ext.refl _ | assumption | apply Ext.alloc_r | apply Ext.drew_r | apply Ext.drewN_r | refine Ext.trans ?_ ‹Ext _ _›)).size
    have xhw8 : Ext w5 w8 := (by with_reducible repeat' first | exact Ext.refl _ | assumption | apply Ext.alloc_r | apply Ext.drew_r | apply Ext.drewN_r | refine Ext.trans ?_ ‹Ext _ _›)
    have szw8 : w5.heap.size ≤ w8.heap.size := xhw8.size
    replace bxn := bxn.ext xhw8
    replace bxd := bxd.ext xhw8
    replace bxm := bxm.ext xhw8
    replace bxf := bxf.ext xhw8
    replace bxp := bxp.ext xhw8
    replace bxq := bxq.ext xhw8
    replace bxwh := bxwh.ext xhw8
    replace bxre := bxre.ext xhw8
    replace lk_0 := xhw8.cell lk_0
    replace lk_1 := xhw8.cell lk_1
    clear y HC
    have kn_0 := bxn.c 0 (.bool s1) rfl
    have kn_1 := bxn.c 1 (.slice A1 L1 c1) rfl
    have kd_0 := bxd.c 0 (.bool s2) rfl
    have kd_1 := bxd.c 1 (.slice A2 L2 c2) rfl
    have km_0 := bxm.c 0 (.bool s3) rfl
    have km_1 := bxm.c 1 (.slice A3 L3 c3) rfl
    have kf_0 := bxf.c 0 (.bool s4) rfl
    have kf_1 := bxf.c 1 (.slice A4 L4 c4) rfl
    have kwh_0 := bxwh.c 0 (.bool saj) rfl
    have kwh_1 := bxwh.c 1 (.slice Aaj Laj caj) rfl
    have kre_0 := bxre.c 0 (.bool sbj) rfl
    have kre_1 := bxre.c 1 (.slice Abj Lbj cbj) rfl
    have HSZ := Lib.hid (And.intro True.intro (And.intro hszw0 (And.intro szw1 (And.intro szw2 szw5))))
    clear hszw0 szw1 szw2 szw5
    go_wp2_with fail
    go_cut [14, 15] (fun s14 s15 wx => PutN w8 wx (P : Int) s14 ∧ PutN w8 wx (S : Int) s15)
    case first =>
      have HK : Hid (∀ w', Ext w8 w' → Ext w8 w' ∧ w'.cell? ⟨w.heap.size, 0, none⟩ = some (.bool s1) ∧ w'.cell? ⟨w.heap.size, 1, none⟩ = some (.slice A1 L1 c1) ∧ w'.cell? ⟨w.heap.size + 1, 0, none⟩ = some (.bool s2) ∧ w'.cell? ⟨w.heap.size + 1, 1, none⟩ = some (.slice A2 L2 c2) ∧ w'.cell? ⟨w.heap.size + 1 + 1, 0, none⟩ = some (.bool s3) ∧ w'.cell? ⟨w.heap.size + 1 + 1, 1, none⟩ = some (.slice A3 L3 c3) ∧ w'.cell? ⟨w.heap.size + 1 + 1 + 1, 0, none⟩ = some (.bool s4) ∧ w'.cell? ⟨w.heap.size + 1 + 1 + 1, 1, none⟩ = some (.slice A4 L4 c4) ∧ w'.cell? ⟨w1.heap.size, 0, none⟩ = some (.bool saj) ∧ w'.cell? ⟨w1.heap.size, 1, none⟩ = some (.slice Aaj Laj caj) ∧ w'.cell? ⟨w1.heap.size + 1, 0, none⟩ = some (.bool sbj) ∧ w'.cell? ⟨w1.heap.size + 1, 1, none⟩ = some (.slice Abj Lbj cbj) ∧ w'.cell? ⟨bkk, 0, none⟩ = some (.bool sk) ∧ w'.cell? ⟨bkk, 1, none⟩ = some (.slice Ak Lk ck)) := fun w' hk => ⟨hk, hk.cell kn_0, hk.cell kn_1, hk.cell kd_0, hk.cell kd_1, hk.cell km_0, hk.cell km_1, hk.cell kf_0, hk.cell kf_1, hk.cell kwh_0, hk.cell kwh_1, hk.cell kre_0, hk.cell kre_1, hk.cell lk_0, hk.cell lk_1⟩
      first
      | go_region_held3 (fun w' => Ext w8 w' ∧ w'.cell? ⟨w.heap.size, 0, none⟩ = some (.bool s1) ∧ w'.cell? ⟨w.heap.size, 1, none⟩ = some (.slice A1 L1 c1) ∧ w'.cell? ⟨w.heap.size + 1, 0, none⟩ = some (.bool s2) ∧ w'.cell? ⟨w.heap.size + 1, 1, none⟩ = some (.slice A2 L2 c2) ∧ w'.cell? ⟨w.heap.size + 1 + 1, 0, none⟩ = some (.bool s3) ∧ w'.cell? ⟨w.heap.size + 1 + 1, 1, none⟩ = some (.slice A3 L3 c3) ∧ w'.cell? ⟨w.heap.size + 1 + 1 + 1, 0, none⟩ = some (.bool s4) ∧ w'.cell? ⟨w.heap.size + 1 + 1 + 1, 1, none⟩ = some (.slice A4 L4 c4) ∧ w'.cell? ⟨w1.heap.size, 0, none⟩ = some (.bool saj) ∧ w'.cell? ⟨w1.heap.size, 1, none⟩ = some (.slice Aaj Laj caj) ∧ w'.cell? ⟨w1.heap.size + 1, 0, none⟩ = some (.bool sbj) ∧ w'.cell? ⟨w1.heap.size + 1, 1, none⟩ = some (.slice Abj Lbj cbj) ∧ w'.cell? ⟨bkk, 0, none⟩ = some (.bool sk) ∧ w'.cell? ⟨bkk, 1, none⟩ = some (.slice Ak Lk ck))
          ((with_reducible refine HK.out _ ?_; (repeat' (first | with_reducible exact Ext.refl _ | with_reducible assumption | with_reducible apply Ext.alloc_r | with_reducible apply Ext.drew_r | with_reducible apply Ext.drewN_r | with_reducible apply Ext.set_r | with_reducible exact Nat.le_refl _ | omega | with_reducible refine Ext.trans ?_ ‹Ext _ _›))))
          (first
            | (go_at_call 89; have hgd := v; clear hgd; refine (HIH.out _ (g4.ext (by with_reducible repeat' first | exact Ext.refl _ | assumption | apply Ext.alloc_r | apply Ext.drew_r | apply Ext.drewN_r | refine Ext.trans ?_ ‹Ext _ _›)) (v.zv.ext (by with_reducible repeat' first | exact Ext.refl _ | assumption | apply Ext.alloc_r | apply Ext.drew_r | apply Ext.drewN_r | refine Ext.trans ?_ ‹Ext _ _›)) (g2.ext (by with_reducible repeat' first | exact Ext.refl _ | assumption | apply Ext.alloc_r | apply Ext.drew_r | apply Ext.drewN_r | refine Ext.trans ?_ ‹Ext _ _›)) (j2.zv.ext (by with_reducible repeat' first | exact Ext.refl _ | assumption | apply Ext.alloc_r | apply Ext.drew_r | apply Ext.drewN_r | refine Ext.trans ?_ ‹Ext _ _›))).mono ?_; rintro e w11 ⟨sb, Ab, cb, Lb, tb, Bb, db, Mb, rfl, b1, b2, x11⟩; (have zs11 := x11.size); (try simp only [World.size_alloc] at zs11); (try ((with_reducible have h11_0 := box_ext (vs := #[.bool false, .slice none 0 0]) x11); have h11_0c0 := (h11_0.1 0 (.bool false) rfl).1; have h11_0f0 := (h11_0.1 0 (.bool false) rfl).2; have h11_0c1 := (h11_0.1 1 (.slice none 0 0) rfl).1; have h11_0f1 := (h11_0.1 1 (.slice none 0 0) rfl).2; have h11_0b := h11_0.2.1; have h11_0z := h11_0.2.2; (try simp only [World.size_alloc] at h11_0b h11_0z h11_0c0 h11_0f0 h11_0c1 h11_0f1); have h11_0m := Nat.ne_of_lt h11_0z; have h11_0n := Nat.ne_of_gt h11_0z; clear h11_0)); (try ((with_reducible have h11_1 := box_ext (vs := #[.bool false, .slice none 0 0]) ((Ext.alloc _ _).trans x11)); have h11_1c0 := (h11_1.1 0 (.bool false) rfl).1; have h11_1f0 := (h11_1.1 0 (.bool false) rfl).2; have h11_1c1 := (h11_1.1 1 (.slice none 0 0) rfl).1; have h11_1f1 := (h11_1.1 1 (.slice none 0 0) rfl).2; have h11_1b := h11_1.2.1; have h11_1z := h11_1.2.2; (try simp only [World.size_alloc] at h11_1b h11_1z h11_1c0 h11_1f0 h11_1c1 h11_1f1); have h11_1m := Nat.ne_of_lt h11_1z; have h11_1n := Nat.ne_of_gt h11_1z; clear h11_1)); (try (have hh : Ext w9 w11 := ?g1100; (case g1100 => ((with_reducible repeat' first | exact Ext.refl _ | assumption | apply Ext.alloc_r | apply Ext.drew_r | apply Ext.drewN_r | refine Ext.trans ?_ ‹Ext _ _›); done)); replace h9_0f0 := hh.frozen h9_0c0 h9_0f0; replace h9_0c0 := hh.cell h9_0c0; replace h9_0f1 := hh.frozen h9_0c1 h9_0f1; replace h9_0c1 := hh.cell h9_0c1; replace h9_0b := h9_0b.ext hh; have h9_0z2 := Nat.lt_of_lt_of_le h9_0z hh.size; have h9_0m2 := Nat.ne_of_lt h9_0z2; have h9_0n2 := Nat.ne_of_gt h9_0z2; clear hh)); (try (have hh : Ext w9 w11 := ?g1101; (case g1101 => ((with_reducible repeat' first | exact Ext.refl _ | assumption | apply Ext.alloc_r | apply Ext.drew_r | apply Ext.drewN_r | refine Ext.trans ?_ ‹Ext _ _›); done)); replace h9_1f0 := hh.frozen h9_1c0 h9_1f0; replace h9_1c0 := hh.cell h9_1c0; replace h9_1f1 := hh.frozen h9_1c1 h9_1f1; replace h9_1c1 := hh.cell h9_1c1; replace h9_1b := h9_1b.ext hh; have h9_1z2 := Nat.lt_of_lt_of_le h9_1z hh.size; have h9_1m2 := Nat.ne_of_lt h9_1z2; have h9_1n2 := Nat.ne_of_gt h9_1z2; clear hh)); (try (have hh : Ext w10 w11 := ?g1110; (case g1110 => ((with_reducible repeat' first | exact Ext.refl _ | assumption | apply Ext.alloc_r | apply Ext.drew_r | apply Ext.drewN_r | refine Ext.trans ?_ ‹Ext _ _›); done)); replace h10_0f0 := hh.frozen h10_0c0 h10_0f0; replace h10_0c0 := hh.cell h10_0c0; replace h10_0f1 := hh.frozen h10_0c1 h10_0f1; replace h10_0c1 := hh.cell h10_0c1; replace h10_0b := h10_0b.ext hh; have h10_0z2 := Nat.lt_of_lt_of_le h10_0z hh.size; have h10_0m2 := Nat.ne_of_lt h10_0z2; have h10_0n2 := Nat.ne_of_gt h10_0z2; clear hh)); (try (have hh : Ext w10 w11 := ?g1111; (case g1111 => ((with_reducible repeat' first | exact Ext.refl _ | assumption | apply Ext.alloc_r | apply Ext.drew_r | apply Ext.drewN_r | refine Ext.trans ?_ ‹Ext _ _›); done)); replace h10_1f0 := hh.frozen h10_1c0 h10_1f0; replace h10_1c0 := hh.cell h10_1c0; replace h10_1f1 := hh.frozen h10_1c1 h10_1f1; replace h10_1c1 := hh.cell h10_1c1; replace h10_1b := h10_1b.ext hh; have h10_1z2 := Nat.lt_of_lt_of_le h10_1z hh.size; have h10_1m2 := Nat.ne_of_lt h10_1z2; have h10_1n2 := Nat.ne_of_gt h10_1z2; clear hh)))
            | (go_at_call 84; have hgd := u; clear hgd; refine (toZ hG (sub_z (g3.ext (by with_reducible repeat' first | exact Ext.refl _ | assumption | apply Ext.alloc_r | apply Ext.drew_r | apply Ext.drewN_r | refine Ext.trans ?_ ‹Ext _ _›)) (u.zv.ext (by with_reducible repeat' first | exact Ext.refl _ | assumption | apply Ext.alloc_r | apply Ext.drew_r | apply Ext.drewN_r | refine Ext.trans ?_ ‹Ext _ _›)) (by omega) (by omega))).mono ?_; rintro e w10 ⟨sv, Av, cv, Lv, rfl, v, x10⟩; (have zs10 := x10.size); (try simp only [World.size_alloc] at zs10); (try ((with_reducible have h10_0 := box_ext (vs := #[.bool false, .slice none 0 0]) x10); have h10_0c0 := (h10_0.1 0 (.bool false) rfl).1; have h10_0f0 := (h10_0.1 0 (.bool false) rfl).2; have h10_0c1 := (h10_0.1 1 (.slice none 0 0) rfl).1; have h10_0f1 := (h10_0.1 1 (.slice none 0 0) rfl).2; have h10_0b := h10_0.2.1; have h10_0z := h10_0.2.2; (try simp only [World.size_alloc] at h10_0b h10_0z h10_0c0 h10_0f0 h10_0c1 h10_0f1); have h10_0m := Nat.ne_of_lt h10_0z; have h10_0n := Nat.ne_of_gt h10_0z; clear h10_0)); (try ((with_reducible have h10_1 := box_ext (vs := #[.bool false, .slice none 0 0]) ((Ext.alloc _ _).trans x10)); have h10_1c0 := (h10_1.1 0 (.bool false) rfl).1; have h10_1f0 := (h10_1.1 0 (.bool false) rfl).2; have h10_1c1 := (h10_1.1 1 (.slice none 0 0) rfl).1; have h10_1f1 := (h10_1.1 1 (.slice none 0 0) rfl).2; have h10_1b := h10_1.2.1; have h10_1z := h10_1.2.2; (try simp only [World.size_alloc] at h10_1b h10_1z h10_1c0 h10_1f0 h10_1c1 h10_1f1); have h10_1m := Nat.ne_of_lt h10_1z; have h10_1n := Nat.ne_of_gt h10_1z; clear h10_1)))
            | (go_at_call 60; refine (mul_z (j1.zv.ext (by with_reducible repeat' first | exact Ext.refl _ | assumption | apply Ext.alloc_r | apply Ext.drew_r | apply Ext.drewN_r | refine Ext.trans ?_ ‹Ext _ _›)) (g4.ext (by with_reducible repeat' first | exact Ext.refl _ | assumption | apply Ext.alloc_r | apply Ext.drew_r | apply Ext.drewN_r | refine Ext.trans ?_ ‹Ext _ _›)) (by omega) (by omega)).mono ?_; rintro e w9 ⟨su, Au, cu, Lu, rfl, u, x9⟩; (have zs9 := x9.size); (try simp only [World.size_alloc, World.size_drew] at zs9); (try ((with_reducible have h9_0 := box_ext (vs := #[.bool false, .slice none 0 0]) ((Ext.drew _).trans x9)); have h9_0c0 := (h9_0.1 0 (.bool false) rfl).1; have h9_0f0 := (h9_0.1 0 (.bool false) rfl).2; have h9_0c1 := (h9_0.1 1 (.slice none 0 0) rfl).1; have h9_0f1 := (h9_0.1 1 (.slice none 0 0) rfl).2; have h9_0b := h9_0.2.1; have h9_0z := h9_0.2.2; (try simp only [World.size_alloc] at h9_0b h9_0z h9_0c0 h9_0f0 h9_0c1 h9_0f1); have h9_0m := Nat.ne_of_lt h9_0z; have h9_0n := Nat.ne_of_gt h9_0z; clear h9_0)); (try ((with_reducible have h9_1 := box_ext (vs := #[.bool false, .slice none 0 0]) (((Ext.alloc _ _).trans (Ext.drew _)).trans x9)); have h9_1c0 := (h9_1.1 0 (.bool false) rfl).1; have h9_1f0 := (h9_1.1 0 (.bool false) rfl).2; have h9_1c1 := (h9_1.1 1 (.slice none 0 0) rfl).1; have h9_1f1 := (h9_1.1 1 (.slice none 0 0) rfl).2; have h9_1b := h9_1.2.1; have h9_1z := h9_1.2.2; (try simp only [World.size_alloc] at h9_1b h9_1z h9_1c0 h9_1f0 h9_1c1 h9_1f1); have h9_1m := Nat.ne_of_lt h9_1z; have h9_1n := Nat.ne_of_gt h9_1z; clear h9_1))))
      | fail
      all_goals (clear HK; go_wp2_with fail; go_meet)
      all_goals
        constructor
        · refine PutN.mk (sb := sb) (A := Ab) (c := cb) (L := Lb) ?_ ?_ ?_ ?_ ?_ ?_ ((b1.mono (Ext.size (by with_reducible repeat' first | exact Ext.refl _ | assumption | apply Ext.alloc_r | apply Ext.drew_r | apply Ext.drewN_r | refine Ext.trans ?_ ‹Ext _ _›))).kept ?_) ?_
          · (first | exact Nat.le_refl _ | omega | (simp only [World.size_alloc, World.size_drew]; omega) | (simp; omega))
          · (repeat' (first | with_reducible assumption | with_reducible apply IsBox.set_ | (with_reducible apply IsBox.new; (first | (with_reducible rfl) | simp); done) | with_reducible apply IsBox.alloc_ | with_reducible apply IsBox.drew_ | with_reducible refine IsBox.ext ?_ ‹Ext _ _›))
          · go_simp
          · go_simp
          · go_simp
          · go_simp
          · (repeat' (first | with_reducible exact Kept.refl _ | with_reducible apply Kept.alloc_r | with_reducible apply Kept.drew_r | (with_reducible apply Kept.setZ; (case hb => ((repeat' (first | with_reducible assumption | with_reducible apply IsBox.set_ | (with_reducible apply IsBox.new; (first | (with_reducible rfl) | simp); done) | with_reducible apply IsBox.alloc_ | with_reducible apply IsBox.drew_ | with_reducible refine IsBox.ext ?_ ‹Ext _ _›)); done))) | (with_reducible apply Kept.setI; (case hb => ((repeat' (first | with_reducible assumption | with_reducible apply IsBox.set_ | (with_reducible apply IsBox.new; (first | (with_reducible rfl) | simp); done) | with_reducible apply IsBox.alloc_ | with_reducible apply IsBox.drew_ | with_reducible refine IsBox.ext ?_ ‹Ext _ _›)); done))) | with_reducible refine Kept.trans ?_ (Ext.kept ‹Ext _ _›)))
          · (repeat' (first | with_reducible exact Ext.refl _ | with_reducible assumption | with_reducible apply Ext.alloc_r | with_reducible apply Ext.drew_r | with_reducible apply Ext.drewN_r | with_reducible apply Ext.set_r | with_reducible exact Nat.le_refl _ | omega | with_reducible refine Ext.trans ?_ ‹Ext _ _›))
        · refine PutN.mk (sb := tb) (A := Bb) (c := db) (L := Mb) ?_ ?_ ?_ ?_ ?_ ?_ ((b2.mono (Ext.size (by with_reducible repeat' first | exact Ext.refl _ | assumption | apply Ext.alloc_r | apply Ext.drew_r | apply Ext.drewN_r | refine Ext.trans ?_ ‹Ext _ _›))).kept ?_) ?_
          · (first | exact Nat.le_refl _ | omega | (simp only [World.size_alloc, World.size_drew]; omega) | (simp; omega))
          · (repeat' (first | with_reducible assumption | with_reducible apply IsBox.set_ | (with_reducible apply IsBox.new; (first | (with_reducible rfl) | simp); done) | with_reducible apply IsBox.alloc_ | with_reducible apply IsBox.drew_ | with_reducible refine IsBox.ext ?_ ‹Ext _ _›))
          · go_simp
          · go_simp
          · go_simp
          · go_simp
          · (repeat' (first | with_reducible exact Kept.refl _ | with_reducible apply Kept.alloc_r | with_reducible apply Kept.drew_r | (with_reducible apply Kept.setZ; (case hb => ((repeat' (first | with_reducible assumption | with_reducible apply IsBox.set_ | (with_reducible apply IsBox.new; (first | (with_reducible rfl) | simp); done) | with_reducible apply IsBox.alloc_ | with_reducible apply IsBox.drew_ | with_reducible refine IsBox.ext ?_ ‹Ext _ _›)); done))) | (with_reducible apply Kept.setI; (case hb => ((repeat' (first | with_reducible assumption | with_reducible apply IsBox.set_ | (with_reducible apply IsBox.new; (first | (with_reducible rfl) | simp); done) | with_reducible apply IsBox.alloc_ | with_reducible apply IsBox.drew_ | with_reducible refine IsBox.ext ?_ ‹Ext _ _›)); done))) | with_reducible refine Kept.trans ?_ (Ext.kept ‹Ext _ _›)))
          · (repeat' (first | with_reducible exact Ext.refl _ | with_reducible assumption | with_reducible apply Ext.alloc_r | with_reducible apply Ext.drew_r | with_reducible apply Ext.drewN_r | with_reducible apply Ext.set_r | with_reducible exact Nat.le_refl _ | omega | with_reducible refine Ext.trans ?_ ‹Ext _ _›))
    case rest =>
      obtain ⟨hszw0, szw1, szw2, szw5⟩ := HSZ.out.2
      clear kn_0 kn_1 kd_0 kd_1 km_0 km_1 kf_0 kf_1 kwh_0 kwh_1 kre_0 kre_1
      obtain ⟨hc_0, hc_1⟩ := hcut
      obtain ⟨bkx, sx, Ax, cx, Lx, rfl, hbx, hwx, x, xxx⟩ := hc_0
      obtain ⟨bky, sy, Ay, cy, Ly, rfl, hby, hwy, y, xxy⟩ := hc_1
      have x12 := xxx
      clear xxx
      clear xxy
      obtain ⟨w12, rfl⟩ : ∃ z : World, z = wc := ⟨_, rfl⟩
      have szw12 : w8.heap.size ≤ w12.heap.size := x12.size
      replace bxn := bxn.ext x12
      replace bxd := bxd.ext x12
      replace bxm := bxm.ext x12
      replace bxf := bxf.ext x12
      replace bxp := bxp.ext x12
      replace bxq := bxq.ext x12
      replace bxwh := bxwh.ext x12
      replace bxre := bxre.ext x12
      replace lk_0 := x12.cell lk_0
      replace lk_1 := x12.cell lk_1
      have lx_0 := hwx.c0
      have lx_1 := hwx.c1
      clear hwx
      have ly_0 := hwy.c0
      have ly_1 := hwy.c1
      clear hwy
      have kn_0 := bxn.c 0 (.bool s1) rfl
      have kn_1 := bxn.c 1 (.slice A1 L1 c1) rfl
      have kd_0 := bxd.c 0 (.bool s2) rfl
      have kd_1 := bxd.c 1 (.slice A2 L2 c2) rfl
      have km_0 := bxm.c 0 (.bool s3) rfl
      have km_1 := bxm.c 1 (.slice A3 L3 c3) rfl
      have kf_0 := bxf.c 0 (.bool s4) rfl
      have kf_1 := bxf.c 1 (.slice A4 L4 c4) rfl
      have kp_0 := bxp.c 0 (.bool false) rfl
      have fp_0 := bxp.f 0
      have kp_1 := bxp.c 1 (.slice none 0 0) rfl
      have fp_1 := bxp.f 1
      have kq_0 := bxq.c 0 (.bool false) rfl
      have fq_0 := bxq.f 0
      have kq_1 := bxq.c 1 (.slice none 0 0) rfl
      have fq_1 := bxq.f 1
      have kwh_0 := bxwh.c 0 (.bool saj) rfl
      have kwh_1 := bxwh.c 1 (.slice Aaj Laj caj) rfl
      have kre_0 := bxre.c 0 (.bool sbj) rfl
      have kre_1 := bxre.c 1 (.slice Abj Lbj cbj) rfl
      go_wp2_with fail
      have HK : Hid (∀ w', Ext w12 w' → (w'.cell? ⟨w1.heap.size, 0, none⟩ = some (.bool saj) ∧ w'.cell? ⟨w1.heap.size, 1, none⟩ = some (.slice Aaj Laj caj) ∧ w'.cell? ⟨bkk, 0, none⟩ = some (.bool sk) ∧ w'.cell? ⟨bkk, 1, none⟩ = some (.slice Ak Lk ck) ∧ w'.cell? ⟨bkx, 0, none⟩ = some (.bool sx) ∧ w'.cell? ⟨bkx, 1, none⟩ = some (.slice Ax Lx cx) ∧ w'.cell? ⟨bky, 0, none⟩ = some (.bool sy) ∧ w'.cell? ⟨bky, 1, none⟩ = some (.slice Ay Ly cy))) := fun w' hk => ⟨hk.cell kwh_0, hk.cell kwh_1, hk.cell lk_0, hk.cell lk_1, hk.cell lx_0, hk.cell lx_1, hk.cell ly_0, hk.cell ly_1⟩
      have nepwh : w.heap.size + 1 + 1 + 1 + 1 ≠ w1.heap.size := by omega
      have neplk : w.heap.size + 1 + 1 + 1 + 1 ≠ bkk := by omega
      have neplx : w.heap.size + 1 + 1 + 1 + 1 ≠ bkx := by omega
      have neply : w.heap.size + 1 + 1 + 1 + 1 ≠ bky := by omega
      have HSp : Hid (∀ (w' : World) (i : Nat) (u : Value), (w'.cell? ⟨w1.heap.size, 0, none⟩ = some (.bool saj) ∧ w'.cell? ⟨w1.heap.size, 1, none⟩ = some (.slice Aaj Laj caj) ∧ w'.cell? ⟨bkk, 0, none⟩ = some (.bool sk) ∧ w'.cell? ⟨bkk, 1, none⟩ = some (.slice Ak Lk ck) ∧ w'.cell? ⟨bkx, 0, none⟩ = some (.bool sx) ∧ w'.cell? ⟨bkx, 1, none⟩ = some (.slice Ax Lx cx) ∧ w'.cell? ⟨bky, 0, none⟩ = some (.bool sy) ∧ w'.cell? ⟨bky, 1, none⟩ = some (.slice Ay Ly cy)) → ((fun (w' : World) => (w'.cell? ⟨w1.heap.size, 0, none⟩ = some (.bool saj) ∧ w'.cell? ⟨w1.heap.size, 1, none⟩ = some (.slice Aaj Laj caj) ∧ w'.cell? ⟨bkk, 0, none⟩ = some (.bool sk) ∧ w'.cell? ⟨bkk, 1, none⟩ = some (.slice Ak Lk ck) ∧ w'.cell? ⟨bkx, 0, none⟩ = some (.bool sx) ∧ w'.cell? ⟨bkx, 1, none⟩ = some (.slice Ax Lx cx) ∧ w'.cell? ⟨bky, 0, none⟩ = some (.bool sy) ∧ w'.cell? ⟨bky, 1, none⟩ = some (.slice Ay Ly cy))) (w'.setCell ⟨w.heap.size + 1 + 1 + 1 + 1, i, none⟩ u))) := fun w' i u hs => ⟨cell_far nepwh hs.1, cell_far nepwh hs.2.1, cell_far neplk hs.2.2.1, cell_far neplk hs.2.2.2.1, cell_far neplx hs.2.2.2.2.1, cell_far neplx hs.2.2.2.2.2.1, cell_far neply hs.2.2.2.2.2.2.1, cell_far neply hs.2.2.2.2.2.2.2⟩
      have neqwh : w.heap.size + 1 + 1 + 1 + 1 + 1 ≠ w1.heap.size := by omega
      have neqlk : w.heap.size + 1 + 1 + 1 + 1 + 1 ≠ bkk := by omega
      have neqlx : w.heap.size + 1 + 1 + 1 + 1 + 1 ≠ bkx := by omega
      have neqly : w.heap.size + 1 + 1 + 1 + 1 + 1 ≠ bky := by omega
      have HSq : Hid (∀ (w' : World) (i : Nat) (u : Value), (w'.cell? ⟨w1.heap.size, 0, none⟩ = some (.bool saj) ∧ w'.cell? ⟨w1.heap.size, 1, none⟩ = some (.slice Aaj Laj caj) ∧ w'.cell? ⟨bkk, 0, none⟩ = some (.bool sk) ∧ w'.cell? ⟨bkk, 1, none⟩ = some (.slice Ak Lk ck) ∧ w'.cell? ⟨bkx, 0, none⟩ = some (.bool sx) ∧ w'.cell? ⟨bkx, 1, none⟩ = some (.slice Ax Lx cx) ∧ w'.cell? ⟨bky, 0, none⟩ = some (.bool sy) ∧ w'.cell? ⟨bky, 1, none⟩ = some (.slice Ay Ly cy)) → ((fun (w' : World) => (w'.cell? ⟨w1.heap.size, 0, none⟩ = some (.bool saj) ∧ w'.cell? ⟨w1.heap.size, 1, none⟩ = some (.slice Aaj Laj caj) ∧ w'.cell? ⟨bkk, 0, none⟩ = some (.bool sk) ∧ w'.cell? ⟨bkk, 1, none⟩ = some (.slice Ak Lk ck) ∧ w'.cell? ⟨bkx, 0, none⟩ = some (.bool sx) ∧ w'.cell? ⟨bkx, 1, none⟩ = some (.slice Ax Lx cx) ∧ w'.cell? ⟨bky, 0, none⟩ = some (.bool sy) ∧ w'.cell? ⟨bky, 1, none⟩ = some (.slice Ay Ly cy))) (w'.setCell ⟨w.heap.size + 1 + 1 + 1 + 1 + 1, i, none⟩ u))) := fun w' i u hs => ⟨cell_far neqwh hs.1, cell_far neqwh hs.2.1, cell_far neqlk hs.2.2.1, cell_far neqlk hs.2.2.2.1, cell_far neqlx hs.2.2.2.2.1, cell_far neqlx hs.2.2.2.2.2.1, cell_far neqly hs.2.2.2.2.2.2.1, cell_far neqly hs.2.2.2.2.2.2.2⟩
      go_region_held3 (fun w' => w'.cell? ⟨w1.heap.size, 0, none⟩ = some (.bool saj) ∧ w'.cell? ⟨w1.heap.size, 1, none⟩ = some (.slice Aaj Laj caj) ∧ w'.cell? ⟨bkk, 0, none⟩ = some (.bool sk) ∧ w'.cell? ⟨bkk, 1, none⟩ = some (.slice Ak Lk ck) ∧ w'.cell? ⟨bkx, 0, none⟩ = some (.bool sx) ∧ w'.cell? ⟨bkx, 1, none⟩ = some (.slice Ax Lx cx) ∧ w'.cell? ⟨bky, 0, none⟩ = some (.bool sy) ∧ w'.cell? ⟨bky, 1, none⟩ = some (.slice Ay Ly cy))
        (((repeat (first | (with_reducible refine HSp.out _ _ _ ?_) | (with_reducible refine HSq.out _ _ _ ?_))); (with_reducible refine HK.out _ ?_; (with_reducible repeat' first | exact Ext.refl _ | assumption | apply Ext.alloc_r | apply Ext.drew_r | apply Ext.drewN_r | refine Ext.trans ?_ ‹Ext _ _›))))
        (first
          | (go_at_call 63; have hgd := u; clear hgd; refine (add_z (u.zv.ext (by with_reducible repeat' first | exact Ext.refl _ | assumption | apply Ext.alloc_r | apply Ext.drew_r | apply Ext.drewN_r | refine Ext.trans ?_ ‹Ext _ _›)) (y.zv.ext (by with_reducible repeat' first | exact Ext.refl _ | assumption | apply Ext.alloc_r | apply Ext.drew_r | apply Ext.drewN_r | refine Ext.trans ?_ ‹Ext _ _›)) (by omega) (by omega)).mono ?_; rintro e w14 ⟨st, At, ct, Lt, rfl, t, x14⟩; have yl : Ext w12 w14 := (by with_reducible repeat' first | exact Ext.refl _ | assumption | apply Ext.alloc_r | apply Ext.drew_r | apply Ext.drewN_r | refine Ext.trans ?_ ‹Ext _ _›); have cp_0 := (bxp.ext yl).c 0 (.bool false) rfl; have gp_0 := (bxp.ext yl).f 0; have cp_1 := (bxp.ext yl).c 1 (.slice none 0 0) rfl; have gp_1 := (bxp.ext yl).f 1; have cq_0 := (bxq.ext yl).c 0 (.bool false) rfl; have gq_0 := (bxq.ext yl).f 0; have cq_1 := (bxq.ext yl).c 1 (.slice none 0 0) rfl; have gq_1 := (bxq.ext yl).f 1)
          | (go_at_call 60; refine (mul_z (j1.zv.ext (by with_reducible repeat' first | exact Ext.refl _ | assumption | apply Ext.alloc_r | apply Ext.drew_r | apply Ext.drewN_r | refine Ext.trans ?_ ‹Ext _ _›)) (x.zv.ext (by with_reducible repeat' first | exact Ext.refl _ | assumption | apply Ext.alloc_r | apply Ext.drew_r | apply Ext.drewN_r | refine Ext.trans ?_ ‹Ext _ _›)) (by omega) (by omega)).mono ?_; rintro e w13 ⟨su, Au, cu, Lu, rfl, u, x13⟩))
      clear kn_0 kn_1 kd_0 kd_1 km_0 km_1 kf_0 kf_1 kp_0 fp_0 kp_1 fp_1 kq_0 fq_0 kq_1 fq_1 kwh_0 kwh_1 kre_0 kre_1
      clear HK HSp nepwh neplk neplx neply HSq neqwh neqlk neqlx neqly
      clear cp_0 gp_0
      clear cp_1 gp_1
      clear cq_0 gq_0
      clear cq_1 gq_1
      clear yl
      have szw13 : w12.heap.size ≤ w13.heap.size := (show Ext w12 w13 from (by with_reducible repeat' first | exact Ext.refl _ | assumption | apply Ext.alloc_r | apply Ext.drew_r | apply Ext.drewN_r | refine Ext.trans ?_ ‹Ext _ _›)).size
      have xhw14 : Ext w12 w14 := (by with_reducible repeat' first | exact Ext.refl _ | assumption | apply Ext.alloc_r | apply Ext.drew_r | apply Ext.drewN_r | refine Ext.trans ?_ ‹Ext _ _›)
      have szw14 : w12.heap.size ≤ w14.heap.size := xhw14.size
      replace bxn := bxn.ext xhw14
      replace bxd := bxd.ext xhw14
      replace bxm := bxm.ext xhw14
      replace bxf := bxf.ext xhw14
      replace bxp := bxp.ext xhw14
      replace bxq := bxq.ext xhw14
      replace bxwh := bxwh.ext xhw14
      replace bxre := bxre.ext xhw14
      replace lk_0 := xhw14.cell lk_0
      replace lk_1 := xhw14.cell lk_1
      replace lx_0 := xhw14.cell lx_0
      replace lx_1 := xhw14.cell lx_1
      replace ly_0 := xhw14.cell ly_0
      replace ly_1 := xhw14.cell ly_1
      have zk := t.mono (show w.heap.size ≤ _ by first | omega | (simp only [World.size_drew]; omega))
      have zo := (x.ext (show Ext _ w14 from (by with_reducible repeat' first | exact Ext.refl _ | assumption | apply Ext.alloc_r | apply Ext.drew_r | apply Ext.drewN_r | refine Ext.trans ?_ ‹Ext _ _›))).mono (show w.heap.size ≤ _ by first | omega | (simp only [World.size_drew]; omega))
      clear t x y u k
      obtain ⟨w15, hw⟩ : ∃ z : World, z = ((((w14.setCell ⟨w.heap.size + 1 + 1 + 1 + 1, 0, none⟩ (.bool st)).setCell ⟨w.heap.size + 1 + 1 + 1 + 1, 1, none⟩ (.slice At Lt ct)).setCell ⟨w.heap.size + 1 + 1 + 1 + 1 + 1, 0, none⟩ (.bool sx)).setCell ⟨w.heap.size + 1 + 1 + 1 + 1 + 1, 1, none⟩ (.slice Ax Lx cx)) := ⟨_, rfl⟩
      rw [← hw]
      have kw15 : Kept w14 w15 := by rw [hw]; exact (Kept.set_ (Kept.set_ (Kept.set_ (Kept.set_ (Kept.refl _) bxp.isBox plain_int) (IsBox.set_ bxp.isBox) plain_int) (IsBox.set_ (IsBox.set_ bxq.isBox)) plain_int) (IsBox.set_ (IsBox.set_ (IsBox.set_ bxq.isBox))) plain_int)
      have nbn : BK w15 (w.heap.size) 25 #[.bool s1, .slice A1 L1 c1] := by rw [hw]; exact (BK.far (BK.far (BK.far (BK.far bxn (show w.heap.size ≠ w.heap.size + 1 + 1 + 1 + 1 by omega) 0 _) (show w.heap.size ≠ w.heap.size + 1 + 1 + 1 + 1 by omega) 1 _) (show w.heap.size ≠ w.heap.size + 1 + 1 + 1 + 1 + 1 by omega) 0 _) (show w.heap.size ≠ w.heap.size + 1 + 1 + 1 + 1 + 1 by omega) 1 _)
      have nbd : BK w15 (w.heap.size + 1) 25 #[.bool s2, .slice A2 L2 c2] := by rw [hw]; exact (BK.far (BK.far (BK.far (BK.far bxd (show w.heap.size + 1 ≠ w.heap.size + 1 + 1 + 1 + 1 by omega) 0 _) (show w.heap.size + 1 ≠ w.heap.size + 1 + 1 + 1 + 1 by omega) 1 _) (show w.heap.size + 1 ≠ w.heap.size + 1 + 1 + 1 + 1 + 1 by omega) 0 _) (show w.heap.size + 1 ≠ w.heap.size + 1 + 1 + 1 + 1 + 1 by omega) 1 _)
      have nbm : BK w15 (w.heap.size + 1 + 1) 25 #[.bool s3, .slice A3 L3 c3] := by rw [hw]; exact (BK.far (BK.far (BK.far (BK.far bxm (show w.heap.size + 1 + 1 ≠ w.heap.size + 1 + 1 + 1 + 1 by omega) 0 _) (show w.heap.size + 1 + 1 ≠ w.heap.size + 1 + 1 + 1 + 1 by omega) 1 _) (show w.heap.size + 1 + 1 ≠ w.heap.size + 1 + 1 + 1 + 1 + 1 by omega) 0 _) (show w.heap.size + 1 + 1 ≠ w.heap.size + 1 + 1 + 1 + 1 + 1 by omega) 1 _)
      have nbf : BK w15 (w.heap.size + 1 + 1 + 1) 25 #[.bool s4, .slice A4 L4 c4] := by rw [hw]; exact (BK.far (BK.far (BK.far (BK.far bxf (show w.heap.size + 1 + 1 + 1 ≠ w.heap.size + 1 + 1 + 1 + 1 by omega) 0 _) (show w.heap.size + 1 + 1 + 1 ≠ w.heap.size + 1 + 1 + 1 + 1 by omega) 1 _) (show w.heap.size + 1 + 1 + 1 ≠ w.heap.size + 1 + 1 + 1 + 1 + 1 by omega) 0 _) (show w.heap.size + 1 + 1 + 1 ≠ w.heap.size + 1 + 1 + 1 + 1 + 1 by omega) 1 _)
      have nbp : BK w15 (w.heap.size + 1 + 1 + 1 + 1) 25 #[.bool st, .slice At Lt ct] := by rw [hw]; exact (BK.far (BK.far (BK.set (i := 1) (u := .slice At Lt ct) (vs' := #[.bool st, .slice At Lt ct]) (BK.set (i := 0) (u := .bool st) (vs' := #[.bool st, .slice none 0 0]) bxp rfl) rfl) (show w.heap.size + 1 + 1 + 1 + 1 ≠ w.heap.size + 1 + 1 + 1 + 1 + 1 by omega) 0 _) (show w.heap.size + 1 + 1 + 1 + 1 ≠ w.heap.size + 1 + 1 + 1 + 1 + 1 by omega) 1 _)
      have nbq : BK w15 (w.heap.size + 1 + 1 + 1 + 1 + 1) 25 #[.bool sx, .slice Ax Lx cx] := by rw [hw]; exact (BK.set (i := 1) (u := .slice Ax Lx cx) (vs' := #[.bool sx, .slice Ax Lx cx]) (BK.set (i := 0) (u := .bool sx) (vs' := #[.bool sx, .slice none 0 0]) (BK.far (BK.far bxq (show w.heap.size + 1 + 1 + 1 + 1 + 1 ≠ w.heap.size + 1 + 1 + 1 + 1 by omega) 0 _) (show w.heap.size + 1 + 1 + 1 + 1 + 1 ≠ w.heap.size + 1 + 1 + 1 + 1 by omega) 1 _) rfl) rfl)
      have nbwh : BK w15 (w1.heap.size) 25 #[.bool saj, .slice Aaj Laj caj] := by rw [hw]; exact (BK.far (BK.far (BK.far (BK.far bxwh (show w1.heap.size ≠ w.heap.size + 1 + 1 + 1 + 1 by omega) 0 _) (show w1.heap.size ≠ w.heap.size + 1 + 1 + 1 + 1 by omega) 1 _) (show w1.heap.size ≠ w.heap.size + 1 + 1 + 1 + 1 + 1 by omega) 0 _) (show w1.heap.size ≠ w.heap.size + 1 + 1 + 1 + 1 + 1 by omega) 1 _)
      have nbre : BK w15 (w1.heap.size + 1) 25 #[.bool sbj, .slice Abj Lbj cbj] := by rw [hw]; exact (BK.far (BK.far (BK.far (BK.far bxre (show w1.heap.size + 1 ≠ w.heap.size + 1 + 1 + 1 + 1 by omega) 0 _) (show w1.heap.size + 1 ≠ w.heap.size + 1 + 1 + 1 + 1 by omega) 1 _) (show w1.heap.size + 1 ≠ w.heap.size + 1 + 1 + 1 + 1 + 1 by omega) 0 _) (show w1.heap.size + 1 ≠ w.heap.size + 1 + 1 + 1 + 1 + 1 by omega) 1 _)
      have x15 : Ext w w15 := by rw [hw]; have hxp : Ext w w14 := (by with_reducible repeat' first | exact Ext.refl _ | assumption | apply Ext.alloc_r | apply Ext.drew_r | apply Ext.drewN_r | refine Ext.trans ?_ ‹Ext _ _›); exact (Ext.set_ (Ext.set_ (Ext.set_ (Ext.set_ hxp (show _ ≤ w.heap.size + 1 + 1 + 1 + 1 by omega)) (show _ ≤ w.heap.size + 1 + 1 + 1 + 1 by omega)) (show _ ≤ w.heap.size + 1 + 1 + 1 + 1 + 1 by omega)) (show _ ≤ w.heap.size + 1 + 1 + 1 + 1 + 1 by omega))
      clear bxn
      clear bxd
      clear bxm
      clear bxf
      clear bxp
      clear bxq
      clear bxwh
      clear bxre
      have bxn := nbn
      clear nbn
      have bxd := nbd
      clear nbd
      have bxm := nbm
      clear nbm
      have bxf := nbf
      clear nbf
      have bxp := nbp
      clear nbp
      have bxq := nbq
      clear nbq
      have bxwh := nbwh
      clear nbwh
      have bxre := nbre
      clear nbre
      have szw15 : w15.heap.size = w14.heap.size := by rw [hw]; simp
      replace zk := (zk.ext (by with_reducible repeat' first | exact Ext.refl _ | assumption | apply Ext.alloc_r | apply Ext.drew_r | apply Ext.drewN_r | refine Ext.trans ?_ ‹Ext _ _›)).kept kw15
      replace zo := (zo.ext (by with_reducible repeat' first | exact Ext.refl _ | assumption | apply Ext.alloc_r | apply Ext.drew_r | apply Ext.drewN_r | refine Ext.trans ?_ ‹Ext _ _›)).kept kw15
      clear hw kw15
      have HZ := Lib.hid (And.intro zk zo)
      clear zk zo
      have kn_0 := bxn.c 0 (.bool s1) rfl
      have kn_1 := bxn.c 1 (.slice A1 L1 c1) rfl
      have kd_0 := bxd.c 0 (.bool s2) rfl
      have kd_1 := bxd.c 1 (.slice A2 L2 c2) rfl
      have km_0 := bxm.c 0 (.bool s3) rfl
      have km_1 := bxm.c 1 (.slice A3 L3 c3) rfl
      have kf_0 := bxf.c 0 (.bool s4) rfl
      have kf_1 := bxf.c 1 (.slice A4 L4 c4) rfl
      have kp_0 := bxp.c 0 (.bool st) rfl
      have kp_1 := bxp.c 1 (.slice At Lt ct) rfl
      have kq_0 := bxq.c 0 (.bool sx) rfl
      have kq_1 := bxq.c 1 (.slice Ax Lx cx) rfl
      have kwh_0 := bxwh.c 0 (.bool saj) rfl
      have kwh_1 := bxwh.c 1 (.slice Aaj Laj caj) rfl
      have kre_0 := bxre.c 0 (.bool sbj) rfl
      have kre_1 := bxre.c 1 (.slice Abj Lbj cbj) rfl
      go_wp2_with fail
      clear kn_0 kn_1 kd_0 kd_1 km_0 km_1 kf_0 kf_1 kp_0 kp_1 kq_0 kq_1 kwh_0 kwh_1 kre_0 kre_1
      have kp_0 := bxp.c 0 (.bool st) rfl
      have kp_1 := bxp.c 1 (.slice At Lt ct) rfl
      have kq_0 := bxq.c 0 (.bool sx) rfl
      have kq_1 := bxq.c 1 (.slice Ax Lx cx) rfl
      refine bodyPost_ret (v := .tuple #[.agg #[.bool st, .slice At Lt ct], .agg #[.bool sx, .slice Ax Lx cx]]) (by simp [results, Try.results89, go_sem, kp_0, kp_1, kq_0, kq_1]) rfl ?_
      exact ⟨_, _, _, _, _, _, _, _, rfl, HZ.out.1, HZ.out.2, x15⟩
theorem between_z {K : Nat} (hK : K ≤ 40) : ∀ (k : Nat) {w : World} {s1 s2 s3 s4 : Bool} {A1 A2 A3 A4 : Option Addr} {c1 c2 c3 c4 L1 L2 L3 L4 : Nat} {n d m f : Nat}, ZV w s1 A1 c1 L1 (n : Int) → ZV w s2 A2 c2 L2 (d : Int) → ZV w s3 A3 c3 L3 (m : Int) → ZV w s4 A4 c4 L4 (f : Int) → 0 < d → d + f ≤ k → n * f < m * d → dl n ≤ K → dl d ≤ K → dl m ≤ K → dl f ≤ K →
    Calls Try.prog 89 #[Value.agg #[.bool s1, .slice A1 L1 c1], Value.agg #[.bool s2, .slice A2 L2 c2], Value.agg #[.bool s3, .slice A3 L3 c3], Value.agg #[.bool s4, .slice A4 L4 c4]] w (RetB2 w ((btw k n d m f).1 : Int) ((btw k n d m f).2 : Int)) := by
  intro k
  induction k with
  | zero => intro w _ _ _ _ _ _ _ _ _ _ _ _ _ _ _ _ n d m f h1 h2 h3 h4 hd hk; omega
  | succ k ih =>
    intro w s1 s2 s3 s4 A1 A2 A3 A4 c1 c2 c3 c4 L1 L2 L3 L4 n d m f h1 h2 h3 h4 hd hk hlt b1 b2 b3 b4
    have bW : dl (n / d) ≤ K := Nat.le_trans (dl_mono (Nat.div_le_self _ _)) b1
    have bR : dl (n % d) ≤ K := Nat.le_trans (dl_mono (Nat.le_of_lt (Nat.mod_lt _ hd))) b2
    by_cases hc : f = 0 ∨ (n / d + 1) * f < m
    · rw [btw_stop hc]
      by_cases hf : f = 0
      · exact between_inf h1 h2 h3 h4 hd b1 b2 b3 b4 hK (Int.natCast_ediv ..) (Int.natCast_emod ..) bW bR hf
      · exact between_small h1 h2 h3 h4 hd b1 b2 b3 b4 hK (Int.natCast_ediv ..) (Int.natCast_emod ..) bW bR (by omega) (by rcases hc with h | h; exact absurd h hf; exact h)
    · obtain ⟨r1, r2, r3, r4, r5⟩ := btw_rec hk hd hlt hc
      have hl := btw_le r3 r2 r4
      rw [btw_go hc]
      have hf : f ≠ 0 := fun h => hc (.inl h)
      have bG : dl (m - n / d * f) ≤ K := Nat.le_trans (dl_mono r5) b4
      have h := between_go (G := m - n / d * f) (P := (btw k f (m - n / d * f) d (n % d)).1) (S := (btw k f (m - n / d * f) d (n % d)).2) h1 h2 h3 h4 hd b1 b2 b3 b4 hK (Int.natCast_ediv ..) (Int.natCast_emod ..) bW bR (by omega) (fun h => hc (.inr h)) (by rw [← Int.natCast_mul]; omega)
        (by have := Nat.le_trans (dl_mono hl.1) (dl_add2 b4 b2); omega) (by have := Nat.le_trans (dl_mono hl.2) (dl_add2 bG bR); omega)
        (fun w' _ _ _ _ _ _ _ _ _ _ _ _ _ _ _ _ g1 g2 g3 g4 => ih g1 g2 g3 g4 r2 r3 r4 b4 bG b2 bR)
      simp only [Int.natCast_add, Int.natCast_mul]
      exact h
end Go.Proofs.Ytfnmbhjifdfibaa
