/- The contract of rational.Simplest. -/
import Derived.ScopeJumps
import Derived.Test.YtfnmbhjifdfibaaSpBtwZ
import Derived.Test.YtfnmbhjifdfibaaTail
import Derived.Deep.RegionHeldLaw
import Derived.Deep.LoopGhost
import Derived.Deep.QuietTactic
import Derived.BigQuiet
namespace Go.Proofs.Ytfnmbhjifdfibaa
open Go.RowKit
theorem BK.set3s {w : World} {b : Nat} {T : TypeId} {u0 u1 u2 v0 v1 v2 : Value} (h : BK w b T #[u0, u1, u2]) : BK (((w.setCell ⟨b, 0, none⟩ v0).setCell ⟨b, 1, none⟩ v1).setCell ⟨b, 2, none⟩ v2) b T #[v0, v1, v2] :=
  (BK.set (i := 2) (u := v2) (vs' := #[v0, v1, v2]) (BK.set (i := 1) (u := v1) (vs' := #[v0, v1, u2]) (BK.set (i := 0) (u := v0) (vs' := #[v0, u1, u2]) h rfl) rfl) rfl)
theorem BK.far3s {w : World} {b b' : Nat} {T : TypeId} {vs : Array Value} {v0 v1 v2 : Value} (hne : b ≠ b') (h : BK w b T vs) : BK (((w.setCell ⟨b', 0, none⟩ v0).setCell ⟨b', 1, none⟩ v1).setCell ⟨b', 2, none⟩ v2) b T vs :=
  ((h.far hne 0 v0).far hne 1 v1).far hne 2 v2
theorem BK.alloc_s {w : World} {b : Nat} {T : TypeId} {vs : Array Value} {o : Obj} (h : BK w b T vs) : BK (w.alloc o) b T vs := h.ext (Ext.alloc _ _)
theorem BK.drew_s {w : World} {b : Nat} {T : TypeId} {vs : Array Value} (h : BK w b T vs) : BK w.drew b T vs := h.ext (Ext.drew _)
theorem BK.new_s {w : World} {b : Nat} {T : TypeId} {vs : Array Value} (hb : b = w.heap.size) : BK (w.alloc (.cells vs T)) b T vs := by rw [hb]; exact BK.new w vs T
theorem Kept.setRs {a w : World} {g i : Nat} {s : Option Nat} {u : Value} (hb : IsBox w g 27) (h : Kept a w) : Kept a (w.setCell ⟨g, i, s⟩ u) := h.set_ hb plain_rat
/-- Two fractions in boxes laid behind w. -/
def PutLB (w w' : World) (N : Nat) (p q : Rat) (s t : Value) : Prop := ∃ b b' s1 A1 c1 L1 B1 d1 M1 s2 A2 c2 L2 B2 d2 M2, s = .pointer (some ⟨b, 0, none⟩) ∧ t = .pointer (some ⟨b', 0, none⟩) ∧ w.heap.size ≤ b ∧ w.heap.size ≤ b' ∧ b ≠ b' ∧ BK w' b 27 #[.bool s1, .slice A1 L1 c1, .slice B1 M1 d1] ∧ BK w' b' 27 #[.bool s2, .slice A2 L2 c2, .slice B2 M2 d2] ∧ RO w' w.heap.size s1 A1 c1 L1 B1 d1 M1 N p ∧ RO w' w.heap.size s2 A2 c2 L2 B2 d2 M2 N q ∧ Ext w w'
theorem PutLB.mk {w w' : World} {N b b' : Nat} {p q : Rat} {s1 s2 : Bool} {A1 B1 A2 B2 : Option Addr} {c1 d1 L1 M1 c2 d2 L2 M2 : Nat} (hb : w.heap.size ≤ b) (hb' : w.heap.size ≤ b') (hne : b ≠ b') (k1 : BK w' b 27 #[.bool s1, .slice A1 L1 c1, .slice B1 M1 d1]) (k2 : BK w' b' 27 #[.bool s2, .slice A2 L2 c2, .slice B2 M2 d2]) (h1 : RO w' w.heap.size s1 A1 c1 L1 B1 d1 M1 N p) (h2 : RO w' w.heap.size s2 A2 c2 L2 B2 d2 M2 N q) (hx : Ext w w') : PutLB w w' N p q (.pointer (some ⟨b, 0, none⟩)) (.pointer (some ⟨b', 0, none⟩)) :=
  ⟨b, b', s1, A1, c1, L1, B1, d1, M1, s2, A2, c2, L2, B2, d2, M2, rfl, rfl, hb, hb', hne, k1, k2, h1, h2, hx⟩
/-- A scope in which the run jumps to one label, and on from there. -/
theorem wp_scope_once {P : Program} {a : Act} {w : World} {Q : Exit → Act → World → Prop} {c rest : Code} (l : Nat) (hf : findLabel c l = some rest) (hQ : ∀ l a w, ¬ Q (.goto l) a w) (first : c.wp P (Exit.jump l (fun a w => rest.wp P Q a w) Q) a w) : (Code.scope c).wp P Q a w :=
  wp_scope_jumps l (fun a w => rest.wp P Q a w) (fun _ _ => 0) hf first (fun _ _ h => wp_mono h (fun e _ _ hq => by cases e <;> first | exact hq | exact absurd hq (hQ _ _ _)))
theorem RO.dz {w : World} {g : Nat} {s : Bool} {A B : Option Addr} {c d L M N : Nat} {q : Rat} (h : RO w g s A c L B d M N q) : ZV w false B d M (q.den : Int) :=
  ⟨by rw [Int.natAbs_natCast, h.len]; exact h.den.nv, (fun h => by cases h), fun _ => Int.natCast_nonneg _⟩
theorem rcmp_e {w : World} {s1 s2 : Bool} {A1 A2 B1 B2 : Option Addr} {c1 c2 d1 d2 L1 L2 M1 M2 N1 N2 : Nat} {q1 q2 : Rat} {k : Int} (h1 : RV w s1 A1 c1 L1 B1 d1 M1 N1 q1) (h2 : RV w s2 A2 c2 L2 B2 d2 M2 N2 q2) (hN : N1 + N2 + 1 ≤ 1000000) (hm : min N1 N2 < 48) (e : cmpQ q1 q2 = k) :
    Calls Try.prog 43 #[.agg #[.bool s1, .slice A1 L1 c1, .slice B1 M1 d1], .agg #[.bool s2, .slice A2 L2 c2, .slice B2 M2 d2]] w fun e w' => e = .returned (.int .i64 k) ∧ Ext w w' := by rw [← e]; exact rcmp_r h1 h2 hN hm
theorem rsign_e {w : World} {s1 : Bool} {A1 B1 : Option Addr} {c1 d1 L1 M1 N1 : Nat} {q1 : Rat} {k : Int} (h1 : RV w s1 A1 c1 L1 B1 d1 M1 N1 q1) (e : q1.num.sign = k) :
    Calls Try.prog 23 #[.agg #[.bool s1, .slice A1 L1 c1, .slice B1 M1 d1]] w fun e w' => e = .returned (.int .i64 k) ∧ Ext w w' := by rw [← e]; exact rsign_r h1
theorem rv_dl {w : World} {s : Bool} {A B : Option Addr} {c d L M N : Nat} {q : Rat} (h : RV w s A c L B d M N q) : dl q.num.natAbs ≤ N ∧ dl q.den ≤ N := by
  obtain ⟨x, y, _, _, rfl, h1, h2⟩ := h.ex
  rcases Nat.eq_zero_or_pos y with h0 | h0
  · rw [h0, Rat.mkRat_zero]
    have := h.one
    exact ⟨by show dl 0 ≤ _; exact Nat.zero_le _, by show dl 1 ≤ _; rw [dl_one]; exact this⟩
  · exact ⟨Nat.le_trans (dl_mono (rat_num_le h0)) h1, Nat.le_trans (dl_mono (rat_den_le h0)) h2⟩
theorem simp_nn {a b q : Rat} (ha : 0 ≤ a.num) (hq : IsSimp a b q) : 0 ≤ q.num := by
  rcases Int.lt_or_le q.num 0 with h | h
  · have h7 := (rat_neg0 q).2 h
    have h8 := ratLtTrans hq.lo h7
    rw [rat_neg0] at h8
    omega
  · exact h
theorem rat_nn {a b : Rat} (ha : 0 ≤ a.num) (hab : a < b) : 0 ≤ b.num := by
  have h0 := hab
  rw [Rat.lt_iff] at h0
  have h5 : (0 : Int) ≤ a.num * (b.den : Int) := Int.mul_nonneg ha (Int.natCast_nonneg _)
  rcases Int.lt_or_le b.num 0 with h | h
  · have h6 : b.num * (a.den : Int) ≤ 0 := Int.mul_nonpos_of_nonpos_of_nonneg (by omega) (Int.natCast_nonneg _)
    omega
  · exact h
theorem between_q {K : Nat} (hK : K ≤ 40) {a b q : Rat} (ha : 0 ≤ a.num) (hab : a < b) (hq : IsSimp a b q) (d1 : dl a.num.natAbs ≤ K) (d2 : dl a.den ≤ K) (d3 : dl b.num.natAbs ≤ K) (d4 : dl b.den ≤ K)
    {w' : World} {s1 s2 s3 s4 : Bool} {A1 A2 A3 A4 : Option Addr} {c1 c2 c3 c4 L1 L2 L3 L4 : Nat} (g1 : ZV w' s1 A1 c1 L1 a.num) (g2 : ZV w' s2 A2 c2 L2 (a.den : Int)) (g3 : ZV w' s3 A3 c3 L3 b.num) (g4 : ZV w' s4 A4 c4 L4 (b.den : Int)) :
    Calls Try.prog 89 #[Value.agg #[.bool s1, .slice A1 L1 c1], Value.agg #[.bool s2, .slice A2 L2 c2], Value.agg #[.bool s3, .slice A3 L3 c3], Value.agg #[.bool s4, .slice A4 L4 c4]] w' (RetB2 w' q.num (q.den : Int)) := by
  have hb := rat_nn ha hab
  obtain ⟨q', hq', e1, e2⟩ := isSimp_btw (a := a) (b := b) (n := a.num.natAbs) (m := b.num.natAbs) (by omega) (by omega) hab (Nat.le_refl _)
  obtain rfl := hq'.unique hq
  have h0 := hab
  rw [Rat.lt_iff] at h0
  rw [e1, e2]
  rw [show a.num = ((a.num.natAbs : Nat) : Int) by omega] at g1
  rw [show b.num = ((b.num.natAbs : Nat) : Int) by omega] at g3
  rw [show a.num = ((a.num.natAbs : Nat) : Int) by omega, show b.num = ((b.num.natAbs : Nat) : Int) by omega] at h0
  exact between_z hK _ g1 g2 g3 g4 a.den_pos (Nat.le_refl _) (by exact_mod_cast h0) d1 d2 d3 d4
set_option maxHeartbeats 4000000 in
set_option maxRecDepth 100000 in
theorem rsimp_err {w : World} {s1 s2 : Bool} {A1 A2 B1 B2 : Option Addr} {c1 c2 d1 d2 L1 L2 M1 M2 K : Nat} {q1 q2 : Rat} (h1 : RV w s1 A1 c1 L1 B1 d1 M1 K q1) (h2 : RV w s2 A2 c2 L2 B2 d2 M2 K q2) (hK : K ≤ 40) (hc : ¬ q1 < q2) :
    Calls Try.prog 51 #[Value.agg #[.bool s1, .slice A1 L1 c1, .slice B1 M1 d1], Value.agg #[.bool s2, .slice A2 L2 c2, .slice B2 M2 d2]] w fun e w' => e = .returned (.tuple #[.agg #[.bool false, .slice none 0 0, .slice none 0 0], .int .i64 4]) ∧ Ext w w' := by
  obtain ⟨C, hC⟩ : ∃ C : Int, C = cmpQ q1 q2 := ⟨_, rfl⟩
  have hcn : 0 ≤ C := by rw [hC]; unfold cmpQ; rw [if_neg hc]; split <;> omega
  have HC := Lib.hid hC.symm
  clear hC hc
  go_enter Try.func51, Try.ntmps51
  go_wp2_with fail
  go_step3
  go_wp2_with fail
  obtain ⟨w0, hw0⟩ : ∃ z : World, z = (((w.alloc (.cells #[.bool s1, .slice A1 L1 c1, .slice B1 M1 d1] 27)).alloc (.cells #[.bool s2, .slice A2 L2 c2, .slice B2 M2 d2] 27)).alloc (.cells #[.bool false, .slice none 0 0, .slice none 0 0] 27)) := ⟨_, rfl⟩
  rw [← hw0]
  have bxa : BK w0 (w.heap.size) 27 #[.bool s1, .slice A1 L1 c1, .slice B1 M1 d1] := by rw [hw0]; have h5 := (BK.ext (BK.ext (BK.new w #[.bool s1, .slice A1 L1 c1, .slice B1 M1 d1] 27) (Ext.alloc _ (.cells #[.bool s2, .slice A2 L2 c2, .slice B2 M2 d2] 27))) (Ext.alloc _ (.cells #[.bool false, .slice none 0 0, .slice none 0 0] 27))); simpa only [World.size_alloc] using h5
  have bxb : BK w0 (w.heap.size + 1) 27 #[.bool s2, .slice A2 L2 c2, .slice B2 M2 d2] := by rw [hw0]; have h5 := (BK.ext (BK.new (w.alloc (.cells #[.bool s1, .slice A1 L1 c1, .slice B1 M1 d1] 27)) #[.bool s2, .slice A2 L2 c2, .slice B2 M2 d2] 27) (Ext.alloc _ (.cells #[.bool false, .slice none 0 0, .slice none 0 0] 27))); simpa only [World.size_alloc] using h5
  have bxr : BK w0 (w.heap.size + 1 + 1) 27 #[.bool false, .slice none 0 0, .slice none 0 0] := by rw [hw0]; have h5 := (BK.new ((w.alloc (.cells #[.bool s1, .slice A1 L1 c1, .slice B1 M1 d1] 27)).alloc (.cells #[.bool s2, .slice A2 L2 c2, .slice B2 M2 d2] 27)) #[.bool false, .slice none 0 0, .slice none 0 0] 27); simpa only [World.size_alloc] using h5
  have hszw0 : w0.heap.size = w.heap.size + 1 + 1 + 1 := by rw [hw0]; simp only [World.size_alloc]
  have xw0 : Ext w w0 := by rw [hw0]; exact (((Ext.alloc _ _).trans (Ext.alloc _ _)).trans (Ext.alloc _ _))
  clear hw0
  refine (rcmp_e (h1.ext (by with_reducible repeat' first | exact Ext.refl _ | assumption | apply Ext.alloc_r | apply Ext.drew_r | apply Ext.drewN_r | refine Ext.trans ?_ ‹Ext _ _›)) (h2.ext (by with_reducible repeat' first | exact Ext.refl _ | assumption | apply Ext.alloc_r | apply Ext.drew_r | apply Ext.drewN_r | refine Ext.trans ?_ ‹Ext _ _›)) (by omega) (by omega) HC.out).mono ?_
  rintro e w1 ⟨rfl, x1⟩
  have szw1 : w0.heap.size ≤ w1.heap.size := x1.size
  replace bxa := bxa.ext x1
  replace bxb := bxb.ext x1
  replace bxr := bxr.ext x1
  clear HC h1 h2
  have ka_0 := bxa.c 0 (.bool s1) rfl
  have ka_1 := bxa.c 1 (.slice A1 L1 c1) rfl
  have ka_2 := bxa.c 2 (.slice B1 M1 d1) rfl
  have kb_0 := bxb.c 0 (.bool s2) rfl
  have kb_1 := bxb.c 1 (.slice A2 L2 c2) rfl
  have kb_2 := bxb.c 2 (.slice B2 M2 d2) rfl
  have kr_0 := bxr.c 0 (.bool false) rfl
  have fr_0 := bxr.f 0
  have kr_1 := bxr.c 1 (.slice none 0 0) rfl
  have fr_1 := bxr.f 1
  have kr_2 := bxr.c 2 (.slice none 0 0) rfl
  have fr_2 := bxr.f 2
  go_wp2_with fail
  clear ka_0 ka_1 ka_2 kb_0 kb_1 kb_2 kr_0 fr_0 kr_1 fr_1 kr_2 fr_2
  obtain ⟨w2, hw⟩ : ∃ z : World, z = (((w1.setCell ⟨w.heap.size + 1 + 1, 0, none⟩ (.bool false)).setCell ⟨w.heap.size + 1 + 1, 1, none⟩ (.slice none 0 0)).setCell ⟨w.heap.size + 1 + 1, 2, none⟩ (.slice none 0 0)) := ⟨_, rfl⟩
  rw [← hw]
  have kw2 : Kept w1 w2 := by rw [hw]; exact (Kept.set_ (Kept.set_ (Kept.set_ (Kept.refl _) bxr.isBox plain_rat) (IsBox.set_ bxr.isBox) plain_rat) (IsBox.set_ (IsBox.set_ bxr.isBox)) plain_rat)
  have nba : BK w2 (w.heap.size) 27 #[.bool s1, .slice A1 L1 c1, .slice B1 M1 d1] := by rw [hw]; exact (BK.far (BK.far (BK.far bxa (show w.heap.size ≠ w.heap.size + 1 + 1 by omega) 0 _) (show w.heap.size ≠ w.heap.size + 1 + 1 by omega) 1 _) (show w.heap.size ≠ w.heap.size + 1 + 1 by omega) 2 _)
  have nbb : BK w2 (w.heap.size + 1) 27 #[.bool s2, .slice A2 L2 c2, .slice B2 M2 d2] := by rw [hw]; exact (BK.far (BK.far (BK.far bxb (show w.heap.size + 1 ≠ w.heap.size + 1 + 1 by omega) 0 _) (show w.heap.size + 1 ≠ w.heap.size + 1 + 1 by omega) 1 _) (show w.heap.size + 1 ≠ w.heap.size + 1 + 1 by omega) 2 _)
  have nbr : BK w2 (w.heap.size + 1 + 1) 27 #[.bool false, .slice none 0 0, .slice none 0 0] := by rw [hw]; exact (BK.set (i := 2) (u := .slice none 0 0) (vs' := #[.bool false, .slice none 0 0, .slice none 0 0]) (BK.set (i := 1) (u := .slice none 0 0) (vs' := #[.bool false, .slice none 0 0, .slice none 0 0]) (BK.set (i := 0) (u := .bool false) (vs' := #[.bool false, .slice none 0 0, .slice none 0 0]) bxr rfl) rfl) rfl)
  have x2 : Ext w w2 := by rw [hw]; have hxp : Ext w w1 := (by with_reducible repeat' first | exact Ext.refl _ | assumption | apply Ext.alloc_r | apply Ext.drew_r | apply Ext.drewN_r | refine Ext.trans ?_ ‹Ext _ _›); exact (Ext.set_ (Ext.set_ (Ext.set_ hxp (show _ ≤ w.heap.size + 1 + 1 by omega)) (show _ ≤ w.heap.size + 1 + 1 by omega)) (show _ ≤ w.heap.size + 1 + 1 by omega))
  clear bxa
  clear bxb
  clear bxr
  have bxa := nba
  clear nba
  have bxb := nbb
  clear nbb
  have bxr := nbr
  clear nbr
  have szw2 : w2.heap.size = w1.heap.size := by rw [hw]; simp
  clear hw kw2
  rw [Exit.noGoto_ret]
  have kr_0 := bxr.c 0 (.bool false) rfl
  have kr_1 := bxr.c 1 (.slice none 0 0) rfl
  have kr_2 := bxr.c 2 (.slice none 0 0) rfl
  refine bodyPost_ret (v := .tuple #[.agg #[.bool false, .slice none 0 0, .slice none 0 0], .int .i64 4]) (by simp [results, Try.results51, go_sem, kr_0, kr_1, kr_2]) rfl ?_
  exact ⟨rfl, x2⟩
set_option maxHeartbeats 4000000 in
set_option maxRecDepth 100000 in
theorem rsimp_zero {w : World} {s1 s2 : Bool} {A1 A2 B1 B2 : Option Addr} {c1 c2 d1 d2 L1 L2 M1 M2 K : Nat} {q1 q2 : Rat} (h1 : RV w s1 A1 c1 L1 B1 d1 M1 K q1) (h2 : RV w s2 A2 c2 L2 B2 d2 M2 K q2) (hK : K ≤ 40) (ha : q1 < 0) (hb : 0 < q2) :
    Calls Try.prog 51 #[Value.agg #[.bool s1, .slice A1 L1 c1, .slice B1 M1 d1], Value.agg #[.bool s2, .slice A2 L2 c2, .slice B2 M2 d2]] w (RetRE w (K + 1) 0) := by
  have hab := ratLtTrans ha hb
  have hK1 : 1 ≤ K := h1.one
  obtain ⟨C, hC⟩ : ∃ C : Int, C = cmpQ q1 q2 := ⟨_, rfl⟩
  have hcn : ¬ 0 ≤ C := by rw [hC]; unfold cmpQ; rw [if_pos hab]; omega
  have HC := Lib.hid hC.symm
  clear hC
  have HS1 : Hid (q1.num.sign = -1) := Int.sign_eq_neg_one_of_neg ((rat_neg0 _).1 ha)
  have HS2 : Hid (q2.num.sign = 1) := Int.sign_eq_one_of_pos ((rat_pos0 _).1 hb)
  clear hab ha hb
  go_enter Try.func51, Try.ntmps51
  go_wp2_with fail
  refine wp_scope_once 0 rfl (fun _ _ _ h => h) ?_
  go_wp2_with fail
  obtain ⟨w0, hw0⟩ : ∃ z : World, z = (((w.alloc (.cells #[.bool s1, .slice A1 L1 c1, .slice B1 M1 d1] 27)).alloc (.cells #[.bool s2, .slice A2 L2 c2, .slice B2 M2 d2] 27)).alloc (.cells #[.bool false, .slice none 0 0, .slice none 0 0] 27)) := ⟨_, rfl⟩
  rw [← hw0]
  have bxa : BK w0 (w.heap.size) 27 #[.bool s1, .slice A1 L1 c1, .slice B1 M1 d1] := by rw [hw0]; have h5 := (BK.ext (BK.ext (BK.new w #[.bool s1, .slice A1 L1 c1, .slice B1 M1 d1] 27) (Ext.alloc _ (.cells #[.bool s2, .slice A2 L2 c2, .slice B2 M2 d2] 27))) (Ext.alloc _ (.cells #[.bool false, .slice none 0 0, .slice none 0 0] 27))); simpa only [World.size_alloc] using h5
  have bxb : BK w0 (w.heap.size + 1) 27 #[.bool s2, .slice A2 L2 c2, .slice B2 M2 d2] := by rw [hw0]; have h5 := (BK.ext (BK.new (w.alloc (.cells #[.bool s1, .slice A1 L1 c1, .slice B1 M1 d1] 27)) #[.bool s2, .slice A2 L2 c2, .slice B2 M2 d2] 27) (Ext.alloc _ (.cells #[.bool false, .slice none 0 0, .slice none 0 0] 27))); simpa only [World.size_alloc] using h5
  have bxr : BK w0 (w.heap.size + 1 + 1) 27 #[.bool false, .slice none 0 0, .slice none 0 0] := by rw [hw0]; have h5 := (BK.new ((w.alloc (.cells #[.bool s1, .slice A1 L1 c1, .slice B1 M1 d1] 27)).alloc (.cells #[.bool s2, .slice A2 L2 c2, .slice B2 M2 d2] 27)) #[.bool false, .slice none 0 0, .slice none 0 0] 27); simpa only [World.size_alloc] using h5
  have hszw0 : w0.heap.size = w.heap.size + 1 + 1 + 1 := by rw [hw0]; simp only [World.size_alloc]
  have xw0 : Ext w w0 := by rw [hw0]; exact (((Ext.alloc _ _).trans (Ext.alloc _ _)).trans (Ext.alloc _ _))
  clear hw0
  refine (rcmp_e (h1.ext (by with_reducible repeat' first | exact Ext.refl _ | assumption | apply Ext.alloc_r | apply Ext.drew_r | apply Ext.drewN_r | refine Ext.trans ?_ ‹Ext _ _›)) (h2.ext (by with_reducible repeat' first | exact Ext.refl _ | assumption | apply Ext.alloc_r | apply Ext.drew_r | apply Ext.drewN_r | refine Ext.trans ?_ ‹Ext _ _›)) (by omega) (by omega) HC.out).mono ?_
  rintro e w1 ⟨rfl, x1⟩
  have szw1 : w0.heap.size ≤ w1.heap.size := x1.size
  replace bxa := bxa.ext x1
  replace bxb := bxb.ext x1
  replace bxr := bxr.ext x1
  clear HC
  have ka_0 := bxa.c 0 (.bool s1) rfl
  have ka_1 := bxa.c 1 (.slice A1 L1 c1) rfl
  have ka_2 := bxa.c 2 (.slice B1 M1 d1) rfl
  have kb_0 := bxb.c 0 (.bool s2) rfl
  have kb_1 := bxb.c 1 (.slice A2 L2 c2) rfl
  have kb_2 := bxb.c 2 (.slice B2 M2 d2) rfl
  have HSZ := Lib.hid (And.intro True.intro (And.intro hszw0 szw1))
  clear hszw0 szw1
  go_wp2_with fail
  go_cut [6, 7] (fun s6 s7 wx => PutLB w1 wx K q1 q2 s6 s7)
  case first =>
    have HK : Hid (∀ w', Ext w1 w' → Ext w1 w' ∧ w'.cell? ⟨w.heap.size, 0, none⟩ = some (.bool s1) ∧ w'.cell? ⟨w.heap.size, 1, none⟩ = some (.slice A1 L1 c1) ∧ w'.cell? ⟨w.heap.size, 2, none⟩ = some (.slice B1 M1 d1) ∧ w'.cell? ⟨w.heap.size + 1, 0, none⟩ = some (.bool s2) ∧ w'.cell? ⟨w.heap.size + 1, 1, none⟩ = some (.slice A2 L2 c2) ∧ w'.cell? ⟨w.heap.size + 1, 2, none⟩ = some (.slice B2 M2 d2)) := fun w' hk => ⟨hk, hk.cell ka_0, hk.cell ka_1, hk.cell ka_2, hk.cell kb_0, hk.cell kb_1, hk.cell kb_2⟩
    first
    | go_region_held3 (fun w' => Ext w1 w' ∧ w'.cell? ⟨w.heap.size, 0, none⟩ = some (.bool s1) ∧ w'.cell? ⟨w.heap.size, 1, none⟩ = some (.slice A1 L1 c1) ∧ w'.cell? ⟨w.heap.size, 2, none⟩ = some (.slice B1 M1 d1) ∧ w'.cell? ⟨w.heap.size + 1, 0, none⟩ = some (.bool s2) ∧ w'.cell? ⟨w.heap.size + 1, 1, none⟩ = some (.slice A2 L2 c2) ∧ w'.cell? ⟨w.heap.size + 1, 2, none⟩ = some (.slice B2 M2 d2))
        ((with_reducible refine HK.out _ ?_; (repeat' (first | with_reducible exact Ext.refl _ | with_reducible assumption | with_reducible apply Ext.alloc_r | with_reducible apply Ext.drew_r | with_reducible apply Ext.drewN_r | with_reducible apply Ext.set_r | with_reducible exact Nat.le_refl _ | omega | with_reducible refine Ext.trans ?_ ‹Ext _ _›))))
        (first
          | (go_at_call_of 47 (#[Value.agg #[.bool s2, .slice A2 L2 c2, .slice B2 M2 d2]]); have hgd := u; clear hgd; refine (rnormal_r (h2.ext (by with_reducible repeat' first | exact Ext.refl _ | assumption | apply Ext.alloc_r | apply Ext.drew_r | apply Ext.drewN_r | refine Ext.trans ?_ ‹Ext _ _›)) (by omega)).mono ?_; rintro e w3 ⟨sv, Av, cv, Lv, Bv, dv, Mv, rfl, v, x3⟩; (have zs3 := x3.size); (try simp only [World.size_alloc] at zs3); (try ((with_reducible have h3_0 := box_ext (vs := #[.bool false, .slice none 0 0, .slice none 0 0]) x3); have h3_0c0 := (h3_0.1 0 (.bool false) rfl).1; have h3_0f0 := (h3_0.1 0 (.bool false) rfl).2; have h3_0c1 := (h3_0.1 1 (.slice none 0 0) rfl).1; have h3_0f1 := (h3_0.1 1 (.slice none 0 0) rfl).2; have h3_0c2 := (h3_0.1 2 (.slice none 0 0) rfl).1; have h3_0f2 := (h3_0.1 2 (.slice none 0 0) rfl).2; have h3_0b := h3_0.2.1; have h3_0z := h3_0.2.2; (try simp only [World.size_alloc] at h3_0b h3_0z h3_0c0 h3_0f0 h3_0c1 h3_0f1 h3_0c2 h3_0f2); have h3_0m := Nat.ne_of_lt h3_0z; have h3_0n := Nat.ne_of_gt h3_0z; clear h3_0)); (try ((with_reducible have h3_1 := box_ext (vs := #[.bool false, .slice none 0 0, .slice none 0 0]) ((Ext.alloc _ _).trans x3)); have h3_1c0 := (h3_1.1 0 (.bool false) rfl).1; have h3_1f0 := (h3_1.1 0 (.bool false) rfl).2; have h3_1c1 := (h3_1.1 1 (.slice none 0 0) rfl).1; have h3_1f1 := (h3_1.1 1 (.slice none 0 0) rfl).2; have h3_1c2 := (h3_1.1 2 (.slice none 0 0) rfl).1; have h3_1f2 := (h3_1.1 2 (.slice none 0 0) rfl).2; have h3_1b := h3_1.2.1; have h3_1z := h3_1.2.2; (try simp only [World.size_alloc] at h3_1b h3_1z h3_1c0 h3_1f0 h3_1c1 h3_1f1 h3_1c2 h3_1f2); have h3_1m := Nat.ne_of_lt h3_1z; have h3_1n := Nat.ne_of_gt h3_1z; clear h3_1)); (try (have hh : Ext w2 w3 := ?g300; (case g300 => ((with_reducible repeat' first | exact Ext.refl _ | assumption | apply Ext.alloc_r | apply Ext.drew_r | apply Ext.drewN_r | refine Ext.trans ?_ ‹Ext _ _›); done)); replace h2_0f0 := hh.frozen h2_0c0 h2_0f0; replace h2_0c0 := hh.cell h2_0c0; replace h2_0f1 := hh.frozen h2_0c1 h2_0f1; replace h2_0c1 := hh.cell h2_0c1; replace h2_0f2 := hh.frozen h2_0c2 h2_0f2; replace h2_0c2 := hh.cell h2_0c2; replace h2_0b := h2_0b.ext hh; have h2_0z2 := Nat.lt_of_lt_of_le h2_0z hh.size; have h2_0m2 := Nat.ne_of_lt h2_0z2; have h2_0n2 := Nat.ne_of_gt h2_0z2; clear hh)); (try (have hh : Ext w2 w3 := ?g301; (case g301 => ((with_reducible repeat' first | exact Ext.refl _ | assumption | apply Ext.alloc_r | apply Ext.drew_r | apply Ext.drewN_r | refine Ext.trans ?_ ‹Ext _ _›); done)); replace h2_1f0 := hh.frozen h2_1c0 h2_1f0; replace h2_1c0 := hh.cell h2_1c0; replace h2_1f1 := hh.frozen h2_1c1 h2_1f1; replace h2_1c1 := hh.cell h2_1c1; replace h2_1f2 := hh.frozen h2_1c2 h2_1f2; replace h2_1c2 := hh.cell h2_1c2; replace h2_1b := h2_1b.ext hh; have h2_1z2 := Nat.lt_of_lt_of_le h2_1z hh.size; have h2_1m2 := Nat.ne_of_lt h2_1z2; have h2_1n2 := Nat.ne_of_gt h2_1z2; clear hh)))
          | (go_at_call_of 47 (#[Value.agg #[.bool s1, .slice A1 L1 c1, .slice B1 M1 d1]]); refine (rnormal_r (h1.ext (by with_reducible repeat' first | exact Ext.refl _ | assumption | apply Ext.alloc_r | apply Ext.drew_r | apply Ext.drewN_r | refine Ext.trans ?_ ‹Ext _ _›)) (by omega)).mono ?_; rintro e w2 ⟨su, Au, cu, Lu, Bu, du, Mu, rfl, u, x2⟩; (have zs2 := x2.size); (try simp only [World.size_alloc, World.size_drew] at zs2); (try ((with_reducible have h2_0 := box_ext (vs := #[.bool false, .slice none 0 0, .slice none 0 0]) ((Ext.drew _).trans x2)); have h2_0c0 := (h2_0.1 0 (.bool false) rfl).1; have h2_0f0 := (h2_0.1 0 (.bool false) rfl).2; have h2_0c1 := (h2_0.1 1 (.slice none 0 0) rfl).1; have h2_0f1 := (h2_0.1 1 (.slice none 0 0) rfl).2; have h2_0c2 := (h2_0.1 2 (.slice none 0 0) rfl).1; have h2_0f2 := (h2_0.1 2 (.slice none 0 0) rfl).2; have h2_0b := h2_0.2.1; have h2_0z := h2_0.2.2; (try simp only [World.size_alloc] at h2_0b h2_0z h2_0c0 h2_0f0 h2_0c1 h2_0f1 h2_0c2 h2_0f2); have h2_0m := Nat.ne_of_lt h2_0z; have h2_0n := Nat.ne_of_gt h2_0z; clear h2_0)); (try ((with_reducible have h2_1 := box_ext (vs := #[.bool false, .slice none 0 0, .slice none 0 0]) (((Ext.alloc _ _).trans (Ext.drew _)).trans x2)); have h2_1c0 := (h2_1.1 0 (.bool false) rfl).1; have h2_1f0 := (h2_1.1 0 (.bool false) rfl).2; have h2_1c1 := (h2_1.1 1 (.slice none 0 0) rfl).1; have h2_1f1 := (h2_1.1 1 (.slice none 0 0) rfl).2; have h2_1c2 := (h2_1.1 2 (.slice none 0 0) rfl).1; have h2_1f2 := (h2_1.1 2 (.slice none 0 0) rfl).2; have h2_1b := h2_1.2.1; have h2_1z := h2_1.2.2; (try simp only [World.size_alloc] at h2_1b h2_1z h2_1c0 h2_1f0 h2_1c1 h2_1f1 h2_1c2 h2_1f2); have h2_1m := Nat.ne_of_lt h2_1z; have h2_1n := Nat.ne_of_gt h2_1z; clear h2_1))))
    | fail
    all_goals (clear HK; go_wp2_with fail; go_meet)
    all_goals
      refine PutLB.mk (s1 := su) (A1 := Au) (c1 := cu) (L1 := Lu) (B1 := Bu) (d1 := du) (M1 := Mu) (s2 := sv) (A2 := Av) (c2 := cv) (L2 := Lv) (B2 := Bv) (d2 := dv) (M2 := Mv) ?_ ?_ ?_ ?_ ?_ ?_ ?_ ?_
      · (first | exact Nat.le_refl _ | omega | (simp only [World.size_alloc, World.size_drew]; omega) | (simp; omega))
      · (first | exact Nat.le_refl _ | omega | (simp only [World.size_alloc, World.size_drew]; omega) | (simp; omega))
      · (first | omega | (simp; done) | (simp; omega))
      · (repeat' (first | with_reducible assumption | with_reducible apply BK.set3s | (with_reducible apply BK.far3s; (case hne => (first | assumption | omega | (simp; done) | (simp only [World.size_alloc, World.size_drew]; omega)))) | (with_reducible apply BK.new_s; (first | rfl | (simp; done))) | with_reducible apply BK.alloc_s | with_reducible apply BK.drew_s | with_reducible refine BK.ext ?_ ‹Ext _ _›))
      · (repeat' (first | with_reducible assumption | with_reducible apply BK.set3s | (with_reducible apply BK.far3s; (case hne => (first | assumption | omega | (simp; done) | (simp only [World.size_alloc, World.size_drew]; omega)))) | (with_reducible apply BK.new_s; (first | rfl | (simp; done))) | with_reducible apply BK.alloc_s | with_reducible apply BK.drew_s | with_reducible refine BK.ext ?_ ‹Ext _ _›))
      · exact (u.mono (by first | omega | (simp only [World.size_alloc]; omega) | (simp only [World.size_drew]; omega) | (simp only [World.size_drew, World.size_alloc]; omega))).kept (by (repeat' (first | with_reducible exact Kept.refl _ | with_reducible apply Kept.alloc_r | with_reducible apply Kept.drew_r | (with_reducible apply Kept.setRs; (case hb => ((repeat' (first | with_reducible assumption | with_reducible apply IsBox.set_ | (with_reducible apply IsBox.new; (first | (with_reducible rfl) | simp); done) | with_reducible apply IsBox.alloc_ | with_reducible apply IsBox.drew_ | with_reducible refine IsBox.ext ?_ ‹Ext _ _›)); done))) | with_reducible refine Kept.trans ?_ (Ext.kept ‹Ext _ _›))))
      · exact (v.mono (by first | omega | (simp only [World.size_alloc]; omega) | (simp only [World.size_drew]; omega) | (simp only [World.size_drew, World.size_alloc]; omega))).kept (by (repeat' (first | with_reducible exact Kept.refl _ | with_reducible apply Kept.alloc_r | with_reducible apply Kept.drew_r | (with_reducible apply Kept.setRs; (case hb => ((repeat' (first | with_reducible assumption | with_reducible apply IsBox.set_ | (with_reducible apply IsBox.new; (first | (with_reducible rfl) | simp); done) | with_reducible apply IsBox.alloc_ | with_reducible apply IsBox.drew_ | with_reducible refine IsBox.ext ?_ ‹Ext _ _›)); done))) | with_reducible refine Kept.trans ?_ (Ext.kept ‹Ext _ _›))))
      · (repeat' (first | with_reducible exact Ext.refl _ | with_reducible assumption | with_reducible apply Ext.alloc_r | with_reducible apply Ext.drew_r | with_reducible apply Ext.drewN_r | with_reducible apply Ext.set_r | with_reducible exact Nat.le_refl _ | omega | with_reducible refine Ext.trans ?_ ‹Ext _ _›))
  case rest =>
    obtain ⟨hszw0, szw1⟩ := HSZ.out.2
    clear ka_0 ka_1 ka_2 kb_0 kb_1 kb_2
    obtain ⟨b6, b7, su, Au, cu, Lu, Bu, du, Mu, sv, Av, cv, Lv, Bv, dv, Mv, rfl, rfl, hb6, hb7, hn67, bxlo, bxhi, u, v, hxc⟩ := hcut
    obtain ⟨wq, rfl⟩ : ∃ z : World, z = wc := ⟨_, rfl⟩
    replace bxr := bxr.ext hxc
    have hszq : w1.heap.size ≤ wq.heap.size := hxc.size
    have hl6 := bxlo.lt
    have hl7 := bxhi.lt
    have xq : Ext w wq := (by with_reducible repeat' first | exact Ext.refl _ | assumption | apply Ext.alloc_r | apply Ext.drew_r | apply Ext.drewN_r | refine Ext.trans ?_ ‹Ext _ _›)
    have HU := Lib.hid (And.intro (u.mono (show w.heap.size ≤ _ by omega)) (v.mono (show w.heap.size ≤ _ by omega)))
    clear u v h1 h2 bxa bxb
    have kr_0 := bxr.c 0 (.bool false) rfl
    have kr_1 := bxr.c 1 (.slice none 0 0) rfl
    have kr_2 := bxr.c 2 (.slice none 0 0) rfl
    have klo_0 := bxlo.c 0 (.bool su) rfl
    have klo_1 := bxlo.c 1 (.slice Au Lu cu) rfl
    have klo_2 := bxlo.c 2 (.slice Bu Mu du) rfl
    have khi_0 := bxhi.c 0 (.bool sv) rfl
    have khi_1 := bxhi.c 1 (.slice Av Lv cv) rfl
    have khi_2 := bxhi.c 2 (.slice Bv Mv dv) rfl
    go_wp2_with fail
    clear kr_0 kr_1 kr_2 klo_0 klo_1 klo_2 khi_0 khi_1 khi_2
    refine (of_z (n := 0) (by omega)).mono ?_
    rintro e w4 ⟨si, Ai, ci, Li, rfl, i, x4⟩
    have szw4 : wq.heap.size ≤ w4.heap.size := x4.size
    replace bxr := bxr.ext x4
    replace bxlo := bxlo.ext x4
    replace bxhi := bxhi.ext x4
    have HI := Lib.hid (i.mono (show w.heap.size ≤ _ by omega))
    clear i
    have kr_0 := bxr.c 0 (.bool false) rfl
    have kr_1 := bxr.c 1 (.slice none 0 0) rfl
    have kr_2 := bxr.c 2 (.slice none 0 0) rfl
    have klo_0 := bxlo.c 0 (.bool su) rfl
    have klo_1 := bxlo.c 1 (.slice Au Lu cu) rfl
    have klo_2 := bxlo.c 2 (.slice Bu Mu du) rfl
    have khi_0 := bxhi.c 0 (.bool sv) rfl
    have khi_1 := bxhi.c 1 (.slice Av Lv cv) rfl
    have khi_2 := bxhi.c 2 (.slice Bv Mv dv) rfl
    go_wp2_with fail
    clear kr_0 kr_1 kr_2 klo_0 klo_1 klo_2 khi_0 khi_1 khi_2
    refine (of_z (n := 1) (by omega)).mono ?_
    rintro e w5 ⟨sj, Aj, cj, Lj, rfl, j, x5⟩
    have szw5 : w4.heap.size ≤ w5.heap.size := x5.size
    replace bxr := bxr.ext x5
    replace bxlo := bxlo.ext x5
    replace bxhi := bxhi.ext x5
    have HJ := Lib.hid (j.mono (show w.heap.size ≤ _ by omega))
    clear j
    have kr_0 := bxr.c 0 (.bool false) rfl
    have kr_1 := bxr.c 1 (.slice none 0 0) rfl
    have kr_2 := bxr.c 2 (.slice none 0 0) rfl
    have klo_0 := bxlo.c 0 (.bool su) rfl
    have klo_1 := bxlo.c 1 (.slice Au Lu cu) rfl
    have klo_2 := bxlo.c 2 (.slice Bu Mu du) rfl
    have khi_0 := bxhi.c 0 (.bool sv) rfl
    have khi_1 := bxhi.c 1 (.slice Av Lv cv) rfl
    have khi_2 := bxhi.c 2 (.slice Bv Mv dv) rfl
    have t1r_0 := fun (o0 : Obj) => ((Ext.alloc w5 o0).cell (bxr.c 0 (.bool false) rfl))
    have t2r_0 := fun (o0 : Obj) (o1 : Obj) => ((Ext.alloc (w5.alloc o0) o1).cell ((Ext.alloc w5 o0).cell (bxr.c 0 (.bool false) rfl)))
    have t1r_1 := fun (o0 : Obj) => ((Ext.alloc w5 o0).cell (bxr.c 1 (.slice none 0 0) rfl))
    have t2r_1 := fun (o0 : Obj) (o1 : Obj) => ((Ext.alloc (w5.alloc o0) o1).cell ((Ext.alloc w5 o0).cell (bxr.c 1 (.slice none 0 0) rfl)))
    have t1r_2 := fun (o0 : Obj) => ((Ext.alloc w5 o0).cell (bxr.c 2 (.slice none 0 0) rfl))
    have t2r_2 := fun (o0 : Obj) (o1 : Obj) => ((Ext.alloc (w5.alloc o0) o1).cell ((Ext.alloc w5 o0).cell (bxr.c 2 (.slice none 0 0) rfl)))
    have t1lo_0 := fun (o0 : Obj) => ((Ext.alloc w5 o0).cell (bxlo.c 0 (.bool su) rfl))
    have t2lo_0 := fun (o0 : Obj) (o1 : Obj) => ((Ext.alloc (w5.alloc o0) o1).cell ((Ext.alloc w5 o0).cell (bxlo.c 0 (.bool su) rfl)))
    have t1lo_1 := fun (o0 : Obj) => ((Ext.alloc w5 o0).cell (bxlo.c 1 (.slice Au Lu cu) rfl))
    have t2lo_1 := fun (o0 : Obj) (o1 : Obj) => ((Ext.alloc (w5.alloc o0) o1).cell ((Ext.alloc w5 o0).cell (bxlo.c 1 (.slice Au Lu cu) rfl)))
    have t1lo_2 := fun (o0 : Obj) => ((Ext.alloc w5 o0).cell (bxlo.c 2 (.slice Bu Mu du) rfl))
    have t2lo_2 := fun (o0 : Obj) (o1 : Obj) => ((Ext.alloc (w5.alloc o0) o1).cell ((Ext.alloc w5 o0).cell (bxlo.c 2 (.slice Bu Mu du) rfl)))
    have t1hi_0 := fun (o0 : Obj) => ((Ext.alloc w5 o0).cell (bxhi.c 0 (.bool sv) rfl))
    have t2hi_0 := fun (o0 : Obj) (o1 : Obj) => ((Ext.alloc (w5.alloc o0) o1).cell ((Ext.alloc w5 o0).cell (bxhi.c 0 (.bool sv) rfl)))
    have t1hi_1 := fun (o0 : Obj) => ((Ext.alloc w5 o0).cell (bxhi.c 1 (.slice Av Lv cv) rfl))
    have t2hi_1 := fun (o0 : Obj) (o1 : Obj) => ((Ext.alloc (w5.alloc o0) o1).cell ((Ext.alloc w5 o0).cell (bxhi.c 1 (.slice Av Lv cv) rfl)))
    have t1hi_2 := fun (o0 : Obj) => ((Ext.alloc w5 o0).cell (bxhi.c 2 (.slice Bv Mv dv) rfl))
    have t2hi_2 := fun (o0 : Obj) (o1 : Obj) => ((Ext.alloc (w5.alloc o0) o1).cell ((Ext.alloc w5 o0).cell (bxhi.c 2 (.slice Bv Mv dv) rfl)))
    go_wp2_with fail
    clear kr_0 kr_1 kr_2 klo_0 klo_1 klo_2 khi_0 khi_1 khi_2 t1r_0 t2r_0 t1r_1 t2r_1 t1r_2 t2r_2 t1lo_0 t2lo_0 t1lo_1 t2lo_1 t1lo_2 t2lo_2 t1hi_0 t2hi_0 t1hi_1 t2hi_1 t1hi_2 t2hi_2
    obtain ⟨w6, hw⟩ : ∃ z : World, z = ((w5.alloc (.cells #[.bool si, .slice Ai Li ci] 25)).alloc (.cells #[.bool sj, .slice Aj Lj cj] 25)) := ⟨_, rfl⟩
    rw [← hw]
    have x6 : Ext w5 w6 := by rw [hw]; exact ((Ext.alloc _ _).trans (Ext.alloc _ _))
    replace bxr := bxr.ext x6
    replace bxlo := bxlo.ext x6
    replace bxhi := bxhi.ext x6
    have bxnu : BK w6 (w5.heap.size) 25 #[.bool si, .slice Ai Li ci] := by rw [hw]; have h5 := (BK.ext (BK.new w5 #[.bool si, .slice Ai Li ci] 25) (Ext.alloc _ (.cells #[.bool sj, .slice Aj Lj cj] 25))); simpa only [World.size_alloc] using h5
    have bxde : BK w6 (w5.heap.size + 1) 25 #[.bool sj, .slice Aj Lj cj] := by rw [hw]; have h5 := (BK.new (w5.alloc (.cells #[.bool si, .slice Ai Li ci] 25)) #[.bool sj, .slice Aj Lj cj] 25); simpa only [World.size_alloc] using h5
    have szw6 : w6.heap.size = w5.heap.size + 1 + 1 := by rw [hw]; simp only [World.size_alloc]
    clear hw
    have kr_0 := bxr.c 0 (.bool false) rfl
    have kr_1 := bxr.c 1 (.slice none 0 0) rfl
    have kr_2 := bxr.c 2 (.slice none 0 0) rfl
    have klo_0 := bxlo.c 0 (.bool su) rfl
    have klo_1 := bxlo.c 1 (.slice Au Lu cu) rfl
    have klo_2 := bxlo.c 2 (.slice Bu Mu du) rfl
    have khi_0 := bxhi.c 0 (.bool sv) rfl
    have khi_1 := bxhi.c 1 (.slice Av Lv cv) rfl
    have khi_2 := bxhi.c 2 (.slice Bv Mv dv) rfl
    have knu_0 := bxnu.c 0 (.bool si) rfl
    have knu_1 := bxnu.c 1 (.slice Ai Li ci) rfl
    have kde_0 := bxde.c 0 (.bool sj) rfl
    have kde_1 := bxde.c 1 (.slice Aj Lj cj) rfl
    go_wp2_with fail
    clear kr_0 kr_1 kr_2 klo_0 klo_1 klo_2 khi_0 khi_1 khi_2 knu_0 knu_1 kde_0 kde_1
    refine (rsign_e (HU.out.1.rv.ext (by with_reducible repeat' first | exact Ext.refl _ | assumption | apply Ext.alloc_r | apply Ext.drew_r | apply Ext.drewN_r | refine Ext.trans ?_ ‹Ext _ _›)) HS1.out).mono ?_
    rintro e w7 ⟨rfl, x7⟩
    have szw7 : w6.heap.size ≤ w7.heap.size := x7.size
    replace bxr := bxr.ext x7
    replace bxlo := bxlo.ext x7
    replace bxhi := bxhi.ext x7
    replace bxnu := bxnu.ext x7
    replace bxde := bxde.ext x7
    have kr_0 := bxr.c 0 (.bool false) rfl
    have kr_1 := bxr.c 1 (.slice none 0 0) rfl
    have kr_2 := bxr.c 2 (.slice none 0 0) rfl
    have klo_0 := bxlo.c 0 (.bool su) rfl
    have klo_1 := bxlo.c 1 (.slice Au Lu cu) rfl
    have klo_2 := bxlo.c 2 (.slice Bu Mu du) rfl
    have khi_0 := bxhi.c 0 (.bool sv) rfl
    have khi_1 := bxhi.c 1 (.slice Av Lv cv) rfl
    have khi_2 := bxhi.c 2 (.slice Bv Mv dv) rfl
    have knu_0 := bxnu.c 0 (.bool si) rfl
    have knu_1 := bxnu.c 1 (.slice Ai Li ci) rfl
    have kde_0 := bxde.c 0 (.bool sj) rfl
    have kde_1 := bxde.c 1 (.slice Aj Lj cj) rfl
    go_wp2_with fail
    clear kr_0 kr_1 kr_2 klo_0 klo_1 klo_2 khi_0 khi_1 khi_2 knu_0 knu_1 kde_0 kde_1
    refine (rsign_e (HU.out.2.rv.ext (by with_reducible repeat' first | exact Ext.refl _ | assumption | apply Ext.alloc_r | apply Ext.drew_r | apply Ext.drewN_r | refine Ext.trans ?_ ‹Ext _ _›)) HS2.out).mono ?_
    rintro e w8 ⟨rfl, x8⟩
    have szw8 : w7.heap.size ≤ w8.heap.size := x8.size
    replace bxr := bxr.ext x8
    replace bxlo := bxlo.ext x8
    replace bxhi := bxhi.ext x8
    replace bxnu := bxnu.ext x8
    replace bxde := bxde.ext x8
    have kr_0 := bxr.c 0 (.bool false) rfl
    have kr_1 := bxr.c 1 (.slice none 0 0) rfl
    have kr_2 := bxr.c 2 (.slice none 0 0) rfl
    have klo_0 := bxlo.c 0 (.bool su) rfl
    have klo_1 := bxlo.c 1 (.slice Au Lu cu) rfl
    have klo_2 := bxlo.c 2 (.slice Bu Mu du) rfl
    have khi_0 := bxhi.c 0 (.bool sv) rfl
    have khi_1 := bxhi.c 1 (.slice Av Lv cv) rfl
    have khi_2 := bxhi.c 2 (.slice Bv Mv dv) rfl
    have knu_0 := bxnu.c 0 (.bool si) rfl
    have knu_1 := bxnu.c 1 (.slice Ai Li ci) rfl
    have kde_0 := bxde.c 0 (.bool sj) rfl
    have kde_1 := bxde.c 1 (.slice Aj Lj cj) rfl
    go_wp2_with fail
    clear kr_0 kr_1 kr_2 klo_0 klo_1 klo_2 khi_0 khi_1 khi_2 knu_0 knu_1 kde_0 kde_1
    go_step3
    refine ⟨rfl, ?_⟩
    have hnum : ZV w8 false Ai ci Li 0 := ⟨(HI.out.zv.ext (show Ext _ w8 from (by with_reducible repeat' first | exact Ext.refl _ | assumption | apply Ext.alloc_r | apply Ext.drew_r | apply Ext.drewN_r | refine Ext.trans ?_ ‹Ext _ _›))).nv, (fun h => by cases h), fun _ => Int.le_refl _⟩
    have HN := Lib.hid hnum
    clear hnum
    have hd0 : dl (0 : Int).natAbs ≤ 17592186044416 := by show dl 0 ≤ _; have : dl 0 = 0 := rfl; omega
    have kr_0 := bxr.c 0 (.bool false) rfl
    have fr_0 := bxr.f 0
    have kr_1 := bxr.c 1 (.slice none 0 0) rfl
    have fr_1 := bxr.f 1
    have kr_2 := bxr.c 2 (.slice none 0 0) rfl
    have fr_2 := bxr.f 2
    have klo_0 := bxlo.c 0 (.bool su) rfl
    have klo_1 := bxlo.c 1 (.slice Au Lu cu) rfl
    have klo_2 := bxlo.c 2 (.slice Bu Mu du) rfl
    have khi_0 := bxhi.c 0 (.bool sv) rfl
    have khi_1 := bxhi.c 1 (.slice Av Lv cv) rfl
    have khi_2 := bxhi.c 2 (.slice Bv Mv dv) rfl
    have knu_0 := bxnu.c 0 (.bool si) rfl
    have knu_1 := bxnu.c 1 (.slice Ai Li ci) rfl
    have kde_0 := bxde.c 0 (.bool sj) rfl
    have kde_1 := bxde.c 1 (.slice Aj Lj cj) rfl
    go_wp2_with fail
    have HK : Hid (∀ w', Ext w8 w' → (w'.cell? ⟨w5.heap.size, 0, none⟩ = some (.bool si) ∧ w'.cell? ⟨w5.heap.size, 1, none⟩ = some (.slice Ai Li ci) ∧ w'.cell? ⟨w5.heap.size + 1, 0, none⟩ = some (.bool sj) ∧ w'.cell? ⟨w5.heap.size + 1, 1, none⟩ = some (.slice Aj Lj cj))) := fun w' hk => ⟨hk.cell knu_0, hk.cell knu_1, hk.cell kde_0, hk.cell kde_1⟩
    have nernu : w.heap.size + 1 + 1 ≠ w5.heap.size := by omega
    have nerde : w.heap.size + 1 + 1 ≠ w5.heap.size + 1 := by omega
    have HSr : Hid (∀ (w' : World) (i : Nat) (u : Value), (w'.cell? ⟨w5.heap.size, 0, none⟩ = some (.bool si) ∧ w'.cell? ⟨w5.heap.size, 1, none⟩ = some (.slice Ai Li ci) ∧ w'.cell? ⟨w5.heap.size + 1, 0, none⟩ = some (.bool sj) ∧ w'.cell? ⟨w5.heap.size + 1, 1, none⟩ = some (.slice Aj Lj cj)) → ((fun (w' : World) => (w'.cell? ⟨w5.heap.size, 0, none⟩ = some (.bool si) ∧ w'.cell? ⟨w5.heap.size, 1, none⟩ = some (.slice Ai Li ci) ∧ w'.cell? ⟨w5.heap.size + 1, 0, none⟩ = some (.bool sj) ∧ w'.cell? ⟨w5.heap.size + 1, 1, none⟩ = some (.slice Aj Lj cj))) (w'.setCell ⟨w.heap.size + 1 + 1, i, none⟩ u))) := fun w' i u hs => ⟨cell_far nernu hs.1, cell_far nernu hs.2.1, cell_far nerde hs.2.2.1, cell_far nerde hs.2.2.2⟩
    go_region_held3 (fun w' => w'.cell? ⟨w5.heap.size, 0, none⟩ = some (.bool si) ∧ w'.cell? ⟨w5.heap.size, 1, none⟩ = some (.slice Ai Li ci) ∧ w'.cell? ⟨w5.heap.size + 1, 0, none⟩ = some (.bool sj) ∧ w'.cell? ⟨w5.heap.size + 1, 1, none⟩ = some (.slice Aj Lj cj))
      (((repeat (first | (with_reducible refine HSr.out _ _ _ ?_))); (with_reducible refine HK.out _ ?_; (with_reducible repeat' first | exact Ext.refl _ | assumption | apply Ext.alloc_r | apply Ext.drew_r | apply Ext.drewN_r | refine Ext.trans ?_ ‹Ext _ _›))))
      (first
        | (go_at_call 88; refine (from_z (HN.out.ext (by with_reducible repeat' first | exact Ext.refl _ | assumption | apply Ext.alloc_r | apply Ext.drew_r | apply Ext.drewN_r | refine Ext.trans ?_ ‹Ext _ _›)) hd0).mono ?_; rintro e w9 ⟨sz, Az, cz, Lz, rfl, z, x9⟩; have yl : Ext w8 w9 := (by with_reducible repeat' first | exact Ext.refl _ | assumption | apply Ext.alloc_r | apply Ext.drew_r | apply Ext.drewN_r | refine Ext.trans ?_ ‹Ext _ _›); have cr_0 := (bxr.ext yl).c 0 (.bool false) rfl; have gr_0 := (bxr.ext yl).f 0; have cr_1 := (bxr.ext yl).c 1 (.slice none 0 0) rfl; have gr_1 := (bxr.ext yl).f 1; have cr_2 := (bxr.ext yl).c 2 (.slice none 0 0) rfl; have gr_2 := (bxr.ext yl).f 2))
    clear kr_0 fr_0 kr_1 fr_1 kr_2 fr_2 klo_0 klo_1 klo_2 khi_0 khi_1 khi_2 knu_0 knu_1 kde_0 kde_1
    clear HK HSr nernu nerde
    clear cr_0 gr_0
    clear cr_1 gr_1
    clear cr_2 gr_2
    clear yl
    have xhw9 : Ext w8 w9 := (by with_reducible repeat' first | exact Ext.refl _ | assumption | apply Ext.alloc_r | apply Ext.drew_r | apply Ext.drewN_r | refine Ext.trans ?_ ‹Ext _ _›)
    have szw9 : w8.heap.size ≤ w9.heap.size := xhw9.size
    replace bxr := bxr.ext xhw9
    replace bxlo := bxlo.ext xhw9
    replace bxhi := bxhi.ext xhw9
    replace bxnu := bxnu.ext xhw9
    replace bxde := bxde.ext xhw9
    have HZ := Lib.hid (z.mono (show w.heap.size ≤ _ by first | omega | (simp only [World.size_drew]; omega)))
    clear z
    have zz := HZ.out
    have zd := HJ.out
    clear HZ
    obtain ⟨w10, hw⟩ : ∃ z : World, z = (((w9.setCell ⟨w.heap.size + 1 + 1, 0, none⟩ (.bool sz)).setCell ⟨w.heap.size + 1 + 1, 1, none⟩ (.slice Az Lz cz)).setCell ⟨w.heap.size + 1 + 1, 2, none⟩ (.slice Aj Lj cj)) := ⟨_, rfl⟩
    rw [← hw]
    have kw10 : Kept w9 w10 := by rw [hw]; exact (Kept.set_ (Kept.set_ (Kept.set_ (Kept.refl _) bxr.isBox plain_rat) (IsBox.set_ bxr.isBox) plain_rat) (IsBox.set_ (IsBox.set_ bxr.isBox)) plain_rat)
    have nbr : BK w10 (w.heap.size + 1 + 1) 27 #[.bool sz, .slice Az Lz cz, .slice Aj Lj cj] := by rw [hw]; exact (BK.set (i := 2) (u := .slice Aj Lj cj) (vs' := #[.bool sz, .slice Az Lz cz, .slice Aj Lj cj]) (BK.set (i := 1) (u := .slice Az Lz cz) (vs' := #[.bool sz, .slice Az Lz cz, .slice none 0 0]) (BK.set (i := 0) (u := .bool sz) (vs' := #[.bool sz, .slice none 0 0, .slice none 0 0]) bxr rfl) rfl) rfl)
    have nblo : BK w10 (b6) 27 #[.bool su, .slice Au Lu cu, .slice Bu Mu du] := by rw [hw]; exact (BK.far (BK.far (BK.far bxlo (show b6 ≠ w.heap.size + 1 + 1 by omega) 0 _) (show b6 ≠ w.heap.size + 1 + 1 by omega) 1 _) (show b6 ≠ w.heap.size + 1 + 1 by omega) 2 _)
    have nbhi : BK w10 (b7) 27 #[.bool sv, .slice Av Lv cv, .slice Bv Mv dv] := by rw [hw]; exact (BK.far (BK.far (BK.far bxhi (show b7 ≠ w.heap.size + 1 + 1 by omega) 0 _) (show b7 ≠ w.heap.size + 1 + 1 by omega) 1 _) (show b7 ≠ w.heap.size + 1 + 1 by omega) 2 _)
    have nbnu : BK w10 (w5.heap.size) 25 #[.bool si, .slice Ai Li ci] := by rw [hw]; exact (BK.far (BK.far (BK.far bxnu (show w5.heap.size ≠ w.heap.size + 1 + 1 by omega) 0 _) (show w5.heap.size ≠ w.heap.size + 1 + 1 by omega) 1 _) (show w5.heap.size ≠ w.heap.size + 1 + 1 by omega) 2 _)
    have nbde : BK w10 (w5.heap.size + 1) 25 #[.bool sj, .slice Aj Lj cj] := by rw [hw]; exact (BK.far (BK.far (BK.far bxde (show w5.heap.size + 1 ≠ w.heap.size + 1 + 1 by omega) 0 _) (show w5.heap.size + 1 ≠ w.heap.size + 1 + 1 by omega) 1 _) (show w5.heap.size + 1 ≠ w.heap.size + 1 + 1 by omega) 2 _)
    have x10 : Ext w w10 := by rw [hw]; have hxp : Ext w w9 := (by with_reducible repeat' first | exact Ext.refl _ | assumption | apply Ext.alloc_r | apply Ext.drew_r | apply Ext.drewN_r | refine Ext.trans ?_ ‹Ext _ _›); exact (Ext.set_ (Ext.set_ (Ext.set_ hxp (show _ ≤ w.heap.size + 1 + 1 by omega)) (show _ ≤ w.heap.size + 1 + 1 by omega)) (show _ ≤ w.heap.size + 1 + 1 by omega))
    clear bxr
    clear bxlo
    clear bxhi
    clear bxnu
    clear bxde
    have bxr := nbr
    clear nbr
    have bxlo := nblo
    clear nblo
    have bxhi := nbhi
    clear nbhi
    have bxnu := nbnu
    clear nbnu
    have bxde := nbde
    clear nbde
    have szw10 : w10.heap.size = w9.heap.size := by rw [hw]; simp
    replace zz := (zz.ext (by with_reducible repeat' first | exact Ext.refl _ | assumption | apply Ext.alloc_r | apply Ext.drew_r | apply Ext.drewN_r | refine Ext.trans ?_ ‹Ext _ _›)).kept kw10
    replace zd := (zd.ext (by with_reducible repeat' first | exact Ext.refl _ | assumption | apply Ext.alloc_r | apply Ext.drew_r | apply Ext.drewN_r | refine Ext.trans ?_ ‹Ext _ _›)).kept kw10
    clear hw kw10
    have HZ := Lib.hid zz
    have HDN := Lib.hid zd
    clear zz zd
    have kr_0 := bxr.c 0 (.bool sz) rfl
    have kr_1 := bxr.c 1 (.slice Az Lz cz) rfl
    have kr_2 := bxr.c 2 (.slice Aj Lj cj) rfl
    have klo_0 := bxlo.c 0 (.bool su) rfl
    have klo_1 := bxlo.c 1 (.slice Au Lu cu) rfl
    have klo_2 := bxlo.c 2 (.slice Bu Mu du) rfl
    have khi_0 := bxhi.c 0 (.bool sv) rfl
    have khi_1 := bxhi.c 1 (.slice Av Lv cv) rfl
    have khi_2 := bxhi.c 2 (.slice Bv Mv dv) rfl
    have knu_0 := bxnu.c 0 (.bool si) rfl
    have knu_1 := bxnu.c 1 (.slice Ai Li ci) rfl
    have kde_0 := bxde.c 0 (.bool sj) rfl
    have kde_1 := bxde.c 1 (.slice Aj Lj cj) rfl
    go_wp2_with fail
    clear kr_0 kr_1 kr_2 klo_0 klo_1 klo_2 khi_0 khi_1 khi_2 knu_0 knu_1 kde_0 kde_1
    have hro : RO w10 w.heap.size sz Az cz Lz Aj cj Lj (K + 1) 0 := ⟨HZ.out, HDN.out.no, HDN.out.len, by show dl 0 ≤ _; have : dl 0 = 0 := rfl; omega, by show dl 1 ≤ _; rw [dl_one]; omega⟩
    have HRO := Lib.hid hro
    clear hro HZ
    have kr_0 := bxr.c 0 (.bool sz) rfl
    have kr_1 := bxr.c 1 (.slice Az Lz cz) rfl
    have kr_2 := bxr.c 2 (.slice Aj Lj cj) rfl
    refine bodyPost_ret (v := .tuple #[.agg #[.bool sz, .slice Az Lz cz, .slice Aj Lj cj], .int .i64 0]) (by simp [results, Try.results51, go_sem, kr_0, kr_1, kr_2]) rfl ?_
    exact ⟨_, _, _, _, _, _, _, rfl, HRO.out, x10⟩
set_option maxHeartbeats 4000000 in
set_option maxRecDepth 100000 in
theorem rsimp_pos {w : World} {s1 s2 : Bool} {A1 A2 B1 B2 : Option Addr} {c1 c2 d1 d2 L1 L2 M1 M2 K : Nat} {q1 q2 : Rat} (h1 : RV w s1 A1 c1 L1 B1 d1 M1 K q1) (h2 : RV w s2 A2 c2 L2 B2 d2 M2 K q2) (hK : K ≤ 40) (hab : q1 < q2) (ha : 0 ≤ q1.num) {q : Rat} (hq : IsSimp q1 q2 q) :
    Calls Try.prog 51 #[Value.agg #[.bool s1, .slice A1 L1 c1, .slice B1 M1 d1], Value.agg #[.bool s2, .slice A2 L2 c2, .slice B2 M2 d2]] w (RetRE w (K + 1) q) := by
  have hK1 : 1 ≤ K := h1.one
  obtain ⟨C, hC⟩ : ∃ C : Int, C = cmpQ q1 q2 := ⟨_, rfl⟩
  have hcn : ¬ 0 ≤ C := by rw [hC]; unfold cmpQ; rw [if_pos hab]; omega
  have HC := Lib.hid hC.symm
  clear hC
  obtain ⟨S1, hS1⟩ : ∃ S1 : Int, S1 = q1.num.sign := ⟨_, rfl⟩
  have hs1 : ¬ S1 < 0 := by rw [hS1]; rcases sign_cases q1.num with ⟨h5, h6⟩ | ⟨h5, h6⟩ | ⟨h5, h6⟩ <;> omega
  have HE1 := Lib.hid hS1.symm
  have HBD : Hid (dl q.num.natAbs ≤ K + 1 ∧ dl q.den ≤ K + 1) := by
    show _ ∧ _
    obtain ⟨b1, b2⟩ := hq.bound
    obtain ⟨d1, d2⟩ := rv_dl h1
    obtain ⟨d3, d4⟩ := rv_dl h2
    exact ⟨Nat.le_trans (dl_mono b2) (dl_add2 d1 d3), Nat.le_trans (dl_mono b1) (dl_add2 d2 d4)⟩
  have HD4 : Hid (dl q1.num.natAbs ≤ K ∧ dl q1.den ≤ K ∧ dl q2.num.natAbs ≤ K ∧ dl q2.den ≤ K) := ⟨(rv_dl h1).1, (rv_dl h1).2, (rv_dl h2).1, (rv_dl h2).2⟩
  have HNN := Lib.hid (simp_nn ha hq)
  have HBT : Hid (∀ w' {s1 s2 s3 s4 : Bool} {A1 A2 A3 A4 : Option Addr} {c1 c2 c3 c4 L1 L2 L3 L4 : Nat}, ZV w' s1 A1 c1 L1 q1.num → ZV w' s2 A2 c2 L2 (q1.den : Int) → ZV w' s3 A3 c3 L3 q2.num → ZV w' s4 A4 c4 L4 (q2.den : Int) → Calls Try.prog 89 #[Value.agg #[.bool s1, .slice A1 L1 c1], Value.agg #[.bool s2, .slice A2 L2 c2], Value.agg #[.bool s3, .slice A3 L3 c3], Value.agg #[.bool s4, .slice A4 L4 c4]] w' (RetB2 w' q.num (q.den : Int))) := fun w' _ _ _ _ _ _ _ _ _ _ _ _ _ _ _ _ g1 g2 g3 g4 =>
    between_q hK ha hab hq HD4.out.1 HD4.out.2.1 HD4.out.2.2.1 HD4.out.2.2.2 g1 g2 g3 g4
  clear hq hab ha hS1 HD4
  go_enter Try.func51, Try.ntmps51
  go_wp2_with fail
  go_step3
  go_wp2_with fail
  obtain ⟨w0, hw0⟩ : ∃ z : World, z = (((w.alloc (.cells #[.bool s1, .slice A1 L1 c1, .slice B1 M1 d1] 27)).alloc (.cells #[.bool s2, .slice A2 L2 c2, .slice B2 M2 d2] 27)).alloc (.cells #[.bool false, .slice none 0 0, .slice none 0 0] 27)) := ⟨_, rfl⟩
  rw [← hw0]
  have bxa : BK w0 (w.heap.size) 27 #[.bool s1, .slice A1 L1 c1, .slice B1 M1 d1] := by rw [hw0]; have h5 := (BK.ext (BK.ext (BK.new w #[.bool s1, .slice A1 L1 c1, .slice B1 M1 d1] 27) (Ext.alloc _ (.cells #[.bool s2, .slice A2 L2 c2, .slice B2 M2 d2] 27))) (Ext.alloc _ (.cells #[.bool false, .slice none 0 0, .slice none 0 0] 27))); simpa only [World.size_alloc] using h5
  have bxb : BK w0 (w.heap.size + 1) 27 #[.bool s2, .slice A2 L2 c2, .slice B2 M2 d2] := by rw [hw0]; have h5 := (BK.ext (BK.new (w.alloc (.cells #[.bool s1, .slice A1 L1 c1, .slice B1 M1 d1] 27)) #[.bool s2, .slice A2 L2 c2, .slice B2 M2 d2] 27) (Ext.alloc _ (.cells #[.bool false, .slice none 0 0, .slice none 0 0] 27))); simpa only [World.size_alloc] using h5
  have bxr : BK w0 (w.heap.size + 1 + 1) 27 #[.bool false, .slice none 0 0, .slice none 0 0] := by rw [hw0]; have h5 := (BK.new ((w.alloc (.cells #[.bool s1, .slice A1 L1 c1, .slice B1 M1 d1] 27)).alloc (.cells #[.bool s2, .slice A2 L2 c2, .slice B2 M2 d2] 27)) #[.bool false, .slice none 0 0, .slice none 0 0] 27); simpa only [World.size_alloc] using h5
  have hszw0 : w0.heap.size = w.heap.size + 1 + 1 + 1 := by rw [hw0]; simp only [World.size_alloc]
  have xw0 : Ext w w0 := by rw [hw0]; exact (((Ext.alloc _ _).trans (Ext.alloc _ _)).trans (Ext.alloc _ _))
  clear hw0
  refine (rcmp_e (h1.ext (by with_reducible repeat' first | exact Ext.refl _ | assumption | apply Ext.alloc_r | apply Ext.drew_r | apply Ext.drewN_r | refine Ext.trans ?_ ‹Ext _ _›)) (h2.ext (by with_reducible repeat' first | exact Ext.refl _ | assumption | apply Ext.alloc_r | apply Ext.drew_r | apply Ext.drewN_r | refine Ext.trans ?_ ‹Ext _ _›)) (by omega) (by omega) HC.out).mono ?_
  rintro e w1 ⟨rfl, x1⟩
  have szw1 : w0.heap.size ≤ w1.heap.size := x1.size
  replace bxa := bxa.ext x1
  replace bxb := bxb.ext x1
  replace bxr := bxr.ext x1
  clear HC
  have ka_0 := bxa.c 0 (.bool s1) rfl
  have ka_1 := bxa.c 1 (.slice A1 L1 c1) rfl
  have ka_2 := bxa.c 2 (.slice B1 M1 d1) rfl
  have kb_0 := bxb.c 0 (.bool s2) rfl
  have kb_1 := bxb.c 1 (.slice A2 L2 c2) rfl
  have kb_2 := bxb.c 2 (.slice B2 M2 d2) rfl
  have HSZ := Lib.hid (And.intro True.intro (And.intro hszw0 szw1))
  clear hszw0 szw1
  go_wp2_with fail
  go_cut [6, 7] (fun s6 s7 wx => PutLB w1 wx K q1 q2 s6 s7)
  case first =>
    have HK : Hid (∀ w', Ext w1 w' → Ext w1 w' ∧ w'.cell? ⟨w.heap.size, 0, none⟩ = some (.bool s1) ∧ w'.cell? ⟨w.heap.size, 1, none⟩ = some (.slice A1 L1 c1) ∧ w'.cell? ⟨w.heap.size, 2, none⟩ = some (.slice B1 M1 d1) ∧ w'.cell? ⟨w.heap.size + 1, 0, none⟩ = some (.bool s2) ∧ w'.cell? ⟨w.heap.size + 1, 1, none⟩ = some (.slice A2 L2 c2) ∧ w'.cell? ⟨w.heap.size + 1, 2, none⟩ = some (.slice B2 M2 d2)) := fun w' hk => ⟨hk, hk.cell ka_0, hk.cell ka_1, hk.cell ka_2, hk.cell kb_0, hk.cell kb_1, hk.cell kb_2⟩
    first
    | go_region_held3 (fun w' => Ext w1 w' ∧ w'.cell? ⟨w.heap.size, 0, none⟩ = some (.bool s1) ∧ w'.cell? ⟨w.heap.size, 1, none⟩ = some (.slice A1 L1 c1) ∧ w'.cell? ⟨w.heap.size, 2, none⟩ = some (.slice B1 M1 d1) ∧ w'.cell? ⟨w.heap.size + 1, 0, none⟩ = some (.bool s2) ∧ w'.cell? ⟨w.heap.size + 1, 1, none⟩ = some (.slice A2 L2 c2) ∧ w'.cell? ⟨w.heap.size + 1, 2, none⟩ = some (.slice B2 M2 d2))
        ((with_reducible refine HK.out _ ?_; (repeat' (first | with_reducible exact Ext.refl _ | with_reducible assumption | with_reducible apply Ext.alloc_r | with_reducible apply Ext.drew_r | with_reducible apply Ext.drewN_r | with_reducible apply Ext.set_r | with_reducible exact Nat.le_refl _ | omega | with_reducible refine Ext.trans ?_ ‹Ext _ _›))))
        (first
          | (go_at_call_of 47 (#[Value.agg #[.bool s2, .slice A2 L2 c2, .slice B2 M2 d2]]); have hgd := u; clear hgd; refine (rnormal_r (h2.ext (by with_reducible repeat' first | exact Ext.refl _ | assumption | apply Ext.alloc_r | apply Ext.drew_r | apply Ext.drewN_r | refine Ext.trans ?_ ‹Ext _ _›)) (by omega)).mono ?_; rintro e w3 ⟨sv, Av, cv, Lv, Bv, dv, Mv, rfl, v, x3⟩; (have zs3 := x3.size); (try simp only [World.size_alloc] at zs3); (try ((with_reducible have h3_0 := box_ext (vs := #[.bool false, .slice none 0 0, .slice none 0 0]) x3); have h3_0c0 := (h3_0.1 0 (.bool false) rfl).1; have h3_0f0 := (h3_0.1 0 (.bool false) rfl).2; have h3_0c1 := (h3_0.1 1 (.slice none 0 0) rfl).1; have h3_0f1 := (h3_0.1 1 (.slice none 0 0) rfl).2; have h3_0c2 := (h3_0.1 2 (.slice none 0 0) rfl).1; have h3_0f2 := (h3_0.1 2 (.slice none 0 0) rfl).2; have h3_0b := h3_0.2.1; have h3_0z := h3_0.2.2; (try simp only [World.size_alloc] at h3_0b h3_0z h3_0c0 h3_0f0 h3_0c1 h3_0f1 h3_0c2 h3_0f2); have h3_0m := Nat.ne_of_lt h3_0z; have h3_0n := Nat.ne_of_gt h3_0z; clear h3_0)); (try ((with_reducible have h3_1 := box_ext (vs := #[.bool false, .slice none 0 0, .slice none 0 0]) ((Ext.alloc _ _).trans x3)); have h3_1c0 := (h3_1.1 0 (.bool false) rfl).1; have h3_1f0 := (h3_1.1 0 (.bool false) rfl).2; have h3_1c1 := (h3_1.1 1 (.slice none 0 0) rfl).1; have h3_1f1 := (h3_1.1 1 (.slice none 0 0) rfl).2; have h3_1c2 := (h3_1.1 2 (.slice none 0 0) rfl).1; have h3_1f2 := (h3_1.1 2 (.slice none 0 0) rfl).2; have h3_1b := h3_1.2.1; have h3_1z := h3_1.2.2; (try simp only [World.size_alloc] at h3_1b h3_1z h3_1c0 h3_1f0 h3_1c1 h3_1f1 h3_1c2 h3_1f2); have h3_1m := Nat.ne_of_lt h3_1z; have h3_1n := Nat.ne_of_gt h3_1z; clear h3_1)); (try (have hh : Ext w2 w3 := ?g300; (case g300 => ((with_reducible repeat' first | exact Ext.refl _ | assumption | apply Ext.alloc_r | apply Ext.drew_r | apply Ext.drewN_r | refine Ext.trans ?_ ‹Ext _ _›); done)); replace h2_0f0 := hh.frozen h2_0c0 h2_0f0; replace h2_0c0 := hh.cell h2_0c0; replace h2_0f1 := hh.frozen h2_0c1 h2_0f1; replace h2_0c1 := hh.cell h2_0c1; replace h2_0f2 := hh.frozen h2_0c2 h2_0f2; replace h2_0c2 := hh.cell h2_0c2; replace h2_0b := h2_0b.ext hh; have h2_0z2 := Nat.lt_of_lt_of_le h2_0z hh.size; have h2_0m2 := Nat.ne_of_lt h2_0z2; have h2_0n2 := Nat.ne_of_gt h2_0z2; clear hh)); (try (have hh : Ext w2 w3 := ?g301; (case g301 => ((with_reducible repeat' first | exact Ext.refl _ | assumption | apply Ext.alloc_r | apply Ext.drew_r | apply Ext.drewN_r | refine Ext.trans ?_ ‹Ext _ _›); done)); replace h2_1f0 := hh.frozen h2_1c0 h2_1f0; replace h2_1c0 := hh.cell h2_1c0; replace h2_1f1 := hh.frozen h2_1c1 h2_1f1; replace h2_1c1 := hh.cell h2_1c1; replace h2_1f2 := hh.frozen h2_1c2 h2_1f2; replace h2_1c2 := hh.cell h2_1c2; replace h2_1b := h2_1b.ext hh; have h2_1z2 := Nat.lt_of_lt_of_le h2_1z hh.size; have h2_1m2 := Nat.ne_of_lt h2_1z2; have h2_1n2 := Nat.ne_of_gt h2_1z2; clear hh)))
          | (go_at_call_of 47 (#[Value.agg #[.bool s1, .slice A1 L1 c1, .slice B1 M1 d1]]); refine (rnormal_r (h1.ext (by with_reducible repeat' first | exact Ext.refl _ | assumption | apply Ext.alloc_r | apply Ext.drew_r | apply Ext.drewN_r | refine Ext.trans ?_ ‹Ext _ _›)) (by omega)).mono ?_; rintro e w2 ⟨su, Au, cu, Lu, Bu, du, Mu, rfl, u, x2⟩; (have zs2 := x2.size); (try simp only [World.size_alloc, World.size_drew] at zs2); (try ((with_reducible have h2_0 := box_ext (vs := #[.bool false, .slice none 0 0, .slice none 0 0]) ((Ext.drew _).trans x2)); have h2_0c0 := (h2_0.1 0 (.bool false) rfl).1; have h2_0f0 := (h2_0.1 0 (.bool false) rfl).2; have h2_0c1 := (h2_0.1 1 (.slice none 0 0) rfl).1; have h2_0f1 := (h2_0.1 1 (.slice none 0 0) rfl).2; have h2_0c2 := (h2_0.1 2 (.slice none 0 0) rfl).1; have h2_0f2 := (h2_0.1 2 (.slice none 0 0) rfl).2; have h2_0b := h2_0.2.1; have h2_0z := h2_0.2.2; (try simp only [World.size_alloc] at h2_0b h2_0z h2_0c0 h2_0f0 h2_0c1 h2_0f1 h2_0c2 h2_0f2); have h2_0m := Nat.ne_of_lt h2_0z; have h2_0n := Nat.ne_of_gt h2_0z; clear h2_0)); (try ((with_reducible have h2_1 := box_ext (vs := #[.bool false, .slice none 0 0, .slice none 0 0]) (((Ext.alloc _ _).trans (Ext.drew _)).trans x2)); have h2_1c0 := (h2_1.1 0 (.bool false) rfl).1; have h2_1f0 := (h2_1.1 0 (.bool false) rfl).2; have h2_1c1 := (h2_1.1 1 (.slice none 0 0) rfl).1; have h2_1f1 := (h2_1.1 1 (.slice none 0 0) rfl).2; have h2_1c2 := (h2_1.1 2 (.slice none 0 0) rfl).1; have h2_1f2 := (h2_1.1 2 (.slice none 0 0) rfl).2; have h2_1b := h2_1.2.1; have h2_1z := h2_1.2.2; (try simp only [World.size_alloc] at h2_1b h2_1z h2_1c0 h2_1f0 h2_1c1 h2_1f1 h2_1c2 h2_1f2); have h2_1m := Nat.ne_of_lt h2_1z; have h2_1n := Nat.ne_of_gt h2_1z; clear h2_1))))
    | fail
    all_goals (clear HK; go_wp2_with fail; go_meet)
    all_goals
      refine PutLB.mk (s1 := su) (A1 := Au) (c1 := cu) (L1 := Lu) (B1 := Bu) (d1 := du) (M1 := Mu) (s2 := sv) (A2 := Av) (c2 := cv) (L2 := Lv) (B2 := Bv) (d2 := dv) (M2 := Mv) ?_ ?_ ?_ ?_ ?_ ?_ ?_ ?_
      · (first | exact Nat.le_refl _ | omega | (simp only [World.size_alloc, World.size_drew]; omega) | (simp; omega))
      · (first | exact Nat.le_refl _ | omega | (simp only [World.size_alloc, World.size_drew]; omega) | (simp; omega))
      · (first | omega | (simp; done) | (simp; omega))
      · (repeat' (first | with_reducible assumption | with_reducible apply BK.set3s | (with_reducible apply BK.far3s; (case hne => (first | assumption | omega | (simp; done) | (simp only [World.size_alloc, World.size_drew]; omega)))) | (with_reducible apply BK.new_s; (first | rfl | (simp; done))) | with_reducible apply BK.alloc_s | with_reducible apply BK.drew_s | with_reducible refine BK.ext ?_ ‹Ext _ _›))
      · (repeat' (first | with_reducible assumption | with_reducible apply BK.set3s | (with_reducible apply BK.far3s; (case hne => (first | assumption | omega | (simp; done) | (simp only [World.size_alloc, World.size_drew]; omega)))) | (with_reducible apply BK.new_s; (first | rfl | (simp; done))) | with_reducible apply BK.alloc_s | with_reducible apply BK.drew_s | with_reducible refine BK.ext ?_ ‹Ext _ _›))
      · exact (u.mono (by first | omega | (simp only [World.size_alloc]; omega) | (simp only [World.size_drew]; omega) | (simp only [World.size_drew, World.size_alloc]; omega))).kept (by (repeat' (first | with_reducible exact Kept.refl _ | with_reducible apply Kept.alloc_r | with_reducible apply Kept.drew_r | (with_reducible apply Kept.setRs; (case hb => ((repeat' (first | with_reducible assumption | with_reducible apply IsBox.set_ | (with_reducible apply IsBox.new; (first | (with_reducible rfl) | simp); done) | with_reducible apply IsBox.alloc_ | with_reducible apply IsBox.drew_ | with_reducible refine IsBox.ext ?_ ‹Ext _ _›)); done))) | with_reducible refine Kept.trans ?_ (Ext.kept ‹Ext _ _›))))
      · exact (v.mono (by first | omega | (simp only [World.size_alloc]; omega) | (simp only [World.size_drew]; omega) | (simp only [World.size_drew, World.size_alloc]; omega))).kept (by (repeat' (first | with_reducible exact Kept.refl _ | with_reducible apply Kept.alloc_r | with_reducible apply Kept.drew_r | (with_reducible apply Kept.setRs; (case hb => ((repeat' (first | with_reducible assumption | with_reducible apply IsBox.set_ | (with_reducible apply IsBox.new; (first | (with_reducible rfl) | simp); done) | with_reducible apply IsBox.alloc_ | with_reducible apply IsBox.drew_ | with_reducible refine IsBox.ext ?_ ‹Ext _ _›)); done))) | with_reducible refine Kept.trans ?_ (Ext.kept ‹Ext _ _›))))
      · (repeat' (first | with_reducible exact Ext.refl _ | with_reducible assumption | with_reducible apply Ext.alloc_r | with_reducible apply Ext.drew_r | with_reducible apply Ext.drewN_r | with_reducible apply Ext.set_r | with_reducible exact Nat.le_refl _ | omega | with_reducible refine Ext.trans ?_ ‹Ext _ _›))
  case rest =>
    obtain ⟨hszw0, szw1⟩ := HSZ.out.2
    clear ka_0 ka_1 ka_2 kb_0 kb_1 kb_2
    obtain ⟨b6, b7, su, Au, cu, Lu, Bu, du, Mu, sv, Av, cv, Lv, Bv, dv, Mv, rfl, rfl, hb6, hb7, hn67, bxlo, bxhi, u, v, hxc⟩ := hcut
    obtain ⟨wq, rfl⟩ : ∃ z : World, z = wc := ⟨_, rfl⟩
    replace bxr := bxr.ext hxc
    have hszq : w1.heap.size ≤ wq.heap.size := hxc.size
    have hl6 := bxlo.lt
    have hl7 := bxhi.lt
    have xq : Ext w wq := (by with_reducible repeat' first | exact Ext.refl _ | assumption | apply Ext.alloc_r | apply Ext.drew_r | apply Ext.drewN_r | refine Ext.trans ?_ ‹Ext _ _›)
    have HU := Lib.hid (And.intro (u.mono (show w.heap.size ≤ _ by omega)) (v.mono (show w.heap.size ≤ _ by omega)))
    clear u v h1 h2 bxa bxb
    have kr_0 := bxr.c 0 (.bool false) rfl
    have kr_1 := bxr.c 1 (.slice none 0 0) rfl
    have kr_2 := bxr.c 2 (.slice none 0 0) rfl
    have klo_0 := bxlo.c 0 (.bool su) rfl
    have klo_1 := bxlo.c 1 (.slice Au Lu cu) rfl
    have klo_2 := bxlo.c 2 (.slice Bu Mu du) rfl
    have khi_0 := bxhi.c 0 (.bool sv) rfl
    have khi_1 := bxhi.c 1 (.slice Av Lv cv) rfl
    have khi_2 := bxhi.c 2 (.slice Bv Mv dv) rfl
    go_wp2_with fail
    clear kr_0 kr_1 kr_2 klo_0 klo_1 klo_2 khi_0 khi_1 khi_2
    refine (of_z (n := 0) (by omega)).mono ?_
    rintro e w4 ⟨si, Ai, ci, Li, rfl, i, x4⟩
    have szw4 : wq.heap.size ≤ w4.heap.size := x4.size
    replace bxr := bxr.ext x4
    replace bxlo := bxlo.ext x4
    replace bxhi := bxhi.ext x4
    have HI := Lib.hid (i.mono (show w.heap.size ≤ _ by omega))
    clear i
    have kr_0 := bxr.c 0 (.bool false) rfl
    have kr_1 := bxr.c 1 (.slice none 0 0) rfl
    have kr_2 := bxr.c 2 (.slice none 0 0) rfl
    have klo_0 := bxlo.c 0 (.bool su) rfl
    have klo_1 := bxlo.c 1 (.slice Au Lu cu) rfl
    have klo_2 := bxlo.c 2 (.slice Bu Mu du) rfl
    have khi_0 := bxhi.c 0 (.bool sv) rfl
    have khi_1 := bxhi.c 1 (.slice Av Lv cv) rfl
    have khi_2 := bxhi.c 2 (.slice Bv Mv dv) rfl
    go_wp2_with fail
    clear kr_0 kr_1 kr_2 klo_0 klo_1 klo_2 khi_0 khi_1 khi_2
    refine (of_z (n := 1) (by omega)).mono ?_
    rintro e w5 ⟨sj, Aj, cj, Lj, rfl, j, x5⟩
    have szw5 : w4.heap.size ≤ w5.heap.size := x5.size
    replace bxr := bxr.ext x5
    replace bxlo := bxlo.ext x5
    replace bxhi := bxhi.ext x5
    have HJ := Lib.hid (j.mono (show w.heap.size ≤ _ by omega))
    clear j
    have kr_0 := bxr.c 0 (.bool false) rfl
    have kr_1 := bxr.c 1 (.slice none 0 0) rfl
    have kr_2 := bxr.c 2 (.slice none 0 0) rfl
    have klo_0 := bxlo.c 0 (.bool su) rfl
    have klo_1 := bxlo.c 1 (.slice Au Lu cu) rfl
    have klo_2 := bxlo.c 2 (.slice Bu Mu du) rfl
    have khi_0 := bxhi.c 0 (.bool sv) rfl
    have khi_1 := bxhi.c 1 (.slice Av Lv cv) rfl
    have khi_2 := bxhi.c 2 (.slice Bv Mv dv) rfl
    have t1r_0 := fun (o0 : Obj) => ((Ext.alloc w5 o0).cell (bxr.c 0 (.bool false) rfl))
    have t2r_0 := fun (o0 : Obj) (o1 : Obj) => ((Ext.alloc (w5.alloc o0) o1).cell ((Ext.alloc w5 o0).cell (bxr.c 0 (.bool false) rfl)))
    have t1r_1 := fun (o0 : Obj) => ((Ext.alloc w5 o0).cell (bxr.c 1 (.slice none 0 0) rfl))
    have t2r_1 := fun (o0 : Obj) (o1 : Obj) => ((Ext.alloc (w5.alloc o0) o1).cell ((Ext.alloc w5 o0).cell (bxr.c 1 (.slice none 0 0) rfl)))
    have t1r_2 := fun (o0 : Obj) => ((Ext.alloc w5 o0).cell (bxr.c 2 (.slice none 0 0) rfl))
    have t2r_2 := fun (o0 : Obj) (o1 : Obj) => ((Ext.alloc (w5.alloc o0) o1).cell ((Ext.alloc w5 o0).cell (bxr.c 2 (.slice none 0 0) rfl)))
    have t1lo_0 := fun (o0 : Obj) => ((Ext.alloc w5 o0).cell (bxlo.c 0 (.bool su) rfl))
    have t2lo_0 := fun (o0 : Obj) (o1 : Obj) => ((Ext.alloc (w5.alloc o0) o1).cell ((Ext.alloc w5 o0).cell (bxlo.c 0 (.bool su) rfl)))
    have t1lo_1 := fun (o0 : Obj) => ((Ext.alloc w5 o0).cell (bxlo.c 1 (.slice Au Lu cu) rfl))
    have t2lo_1 := fun (o0 : Obj) (o1 : Obj) => ((Ext.alloc (w5.alloc o0) o1).cell ((Ext.alloc w5 o0).cell (bxlo.c 1 (.slice Au Lu cu) rfl)))
    have t1lo_2 := fun (o0 : Obj) => ((Ext.alloc w5 o0).cell (bxlo.c 2 (.slice Bu Mu du) rfl))
    have t2lo_2 := fun (o0 : Obj) (o1 : Obj) => ((Ext.alloc (w5.alloc o0) o1).cell ((Ext.alloc w5 o0).cell (bxlo.c 2 (.slice Bu Mu du) rfl)))
    have t1hi_0 := fun (o0 : Obj) => ((Ext.alloc w5 o0).cell (bxhi.c 0 (.bool sv) rfl))
    have t2hi_0 := fun (o0 : Obj) (o1 : Obj) => ((Ext.alloc (w5.alloc o0) o1).cell ((Ext.alloc w5 o0).cell (bxhi.c 0 (.bool sv) rfl)))
    have t1hi_1 := fun (o0 : Obj) => ((Ext.alloc w5 o0).cell (bxhi.c 1 (.slice Av Lv cv) rfl))
    have t2hi_1 := fun (o0 : Obj) (o1 : Obj) => ((Ext.alloc (w5.alloc o0) o1).cell ((Ext.alloc w5 o0).cell (bxhi.c 1 (.slice Av Lv cv) rfl)))
    have t1hi_2 := fun (o0 : Obj) => ((Ext.alloc w5 o0).cell (bxhi.c 2 (.slice Bv Mv dv) rfl))
    have t2hi_2 := fun (o0 : Obj) (o1 : Obj) => ((Ext.alloc (w5.alloc o0) o1).cell ((Ext.alloc w5 o0).cell (bxhi.c 2 (.slice Bv Mv dv) rfl)))
    go_wp2_with fail
    clear kr_0 kr_1 kr_2 klo_0 klo_1 klo_2 khi_0 khi_1 khi_2 t1r_0 t2r_0 t1r_1 t2r_1 t1r_2 t2r_2 t1lo_0 t2lo_0 t1lo_1 t2lo_1 t1lo_2 t2lo_2 t1hi_0 t2hi_0 t1hi_1 t2hi_1 t1hi_2 t2hi_2
    obtain ⟨w6, hw⟩ : ∃ z : World, z = ((w5.alloc (.cells #[.bool si, .slice Ai Li ci] 25)).alloc (.cells #[.bool sj, .slice Aj Lj cj] 25)) := ⟨_, rfl⟩
    rw [← hw]
    have x6 : Ext w5 w6 := by rw [hw]; exact ((Ext.alloc _ _).trans (Ext.alloc _ _))
    replace bxr := bxr.ext x6
    replace bxlo := bxlo.ext x6
    replace bxhi := bxhi.ext x6
    have bxnu : BK w6 (w5.heap.size) 25 #[.bool si, .slice Ai Li ci] := by rw [hw]; have h5 := (BK.ext (BK.new w5 #[.bool si, .slice Ai Li ci] 25) (Ext.alloc _ (.cells #[.bool sj, .slice Aj Lj cj] 25))); simpa only [World.size_alloc] using h5
    have bxde : BK w6 (w5.heap.size + 1) 25 #[.bool sj, .slice Aj Lj cj] := by rw [hw]; have h5 := (BK.new (w5.alloc (.cells #[.bool si, .slice Ai Li ci] 25)) #[.bool sj, .slice Aj Lj cj] 25); simpa only [World.size_alloc] using h5
    have szw6 : w6.heap.size = w5.heap.size + 1 + 1 := by rw [hw]; simp only [World.size_alloc]
    clear hw
    have kr_0 := bxr.c 0 (.bool false) rfl
    have kr_1 := bxr.c 1 (.slice none 0 0) rfl
    have kr_2 := bxr.c 2 (.slice none 0 0) rfl
    have klo_0 := bxlo.c 0 (.bool su) rfl
    have klo_1 := bxlo.c 1 (.slice Au Lu cu) rfl
    have klo_2 := bxlo.c 2 (.slice Bu Mu du) rfl
    have khi_0 := bxhi.c 0 (.bool sv) rfl
    have khi_1 := bxhi.c 1 (.slice Av Lv cv) rfl
    have khi_2 := bxhi.c 2 (.slice Bv Mv dv) rfl
    have knu_0 := bxnu.c 0 (.bool si) rfl
    have knu_1 := bxnu.c 1 (.slice Ai Li ci) rfl
    have kde_0 := bxde.c 0 (.bool sj) rfl
    have kde_1 := bxde.c 1 (.slice Aj Lj cj) rfl
    go_wp2_with fail
    clear kr_0 kr_1 kr_2 klo_0 klo_1 klo_2 khi_0 khi_1 khi_2 knu_0 knu_1 kde_0 kde_1
    refine (rsign_e (HU.out.1.rv.ext (by with_reducible repeat' first | exact Ext.refl _ | assumption | apply Ext.alloc_r | apply Ext.drew_r | apply Ext.drewN_r | refine Ext.trans ?_ ‹Ext _ _›)) HE1.out).mono ?_
    rintro e w7 ⟨rfl, x7⟩
    have szw7 : w6.heap.size ≤ w7.heap.size := x7.size
    replace bxr := bxr.ext x7
    replace bxlo := bxlo.ext x7
    replace bxhi := bxhi.ext x7
    replace bxnu := bxnu.ext x7
    replace bxde := bxde.ext x7
    have kr_0 := bxr.c 0 (.bool false) rfl
    have kr_1 := bxr.c 1 (.slice none 0 0) rfl
    have kr_2 := bxr.c 2 (.slice none 0 0) rfl
    have klo_0 := bxlo.c 0 (.bool su) rfl
    have klo_1 := bxlo.c 1 (.slice Au Lu cu) rfl
    have klo_2 := bxlo.c 2 (.slice Bu Mu du) rfl
    have khi_0 := bxhi.c 0 (.bool sv) rfl
    have khi_1 := bxhi.c 1 (.slice Av Lv cv) rfl
    have khi_2 := bxhi.c 2 (.slice Bv Mv dv) rfl
    have knu_0 := bxnu.c 0 (.bool si) rfl
    have knu_1 := bxnu.c 1 (.slice Ai Li ci) rfl
    have kde_0 := bxde.c 0 (.bool sj) rfl
    have kde_1 := bxde.c 1 (.slice Aj Lj cj) rfl
    go_wp2_with fail
    clear kr_0 kr_1 kr_2 klo_0 klo_1 klo_2 khi_0 khi_1 khi_2 knu_0 knu_1 kde_0 kde_1
    refine (rsign_e (HU.out.1.rv.ext (by with_reducible repeat' first | exact Ext.refl _ | assumption | apply Ext.alloc_r | apply Ext.drew_r | apply Ext.drewN_r | refine Ext.trans ?_ ‹Ext _ _›)) HE1.out).mono ?_
    rintro e w8 ⟨rfl, x8⟩
    have szw8 : w7.heap.size ≤ w8.heap.size := x8.size
    replace bxr := bxr.ext x8
    replace bxlo := bxlo.ext x8
    replace bxhi := bxhi.ext x8
    replace bxnu := bxnu.ext x8
    replace bxde := bxde.ext x8
    have kr_0 := bxr.c 0 (.bool false) rfl
    have kr_1 := bxr.c 1 (.slice none 0 0) rfl
    have kr_2 := bxr.c 2 (.slice none 0 0) rfl
    have klo_0 := bxlo.c 0 (.bool su) rfl
    have klo_1 := bxlo.c 1 (.slice Au Lu cu) rfl
    have klo_2 := bxlo.c 2 (.slice Bu Mu du) rfl
    have khi_0 := bxhi.c 0 (.bool sv) rfl
    have khi_1 := bxhi.c 1 (.slice Av Lv cv) rfl
    have khi_2 := bxhi.c 2 (.slice Bv Mv dv) rfl
    have knu_0 := bxnu.c 0 (.bool si) rfl
    have knu_1 := bxnu.c 1 (.slice Ai Li ci) rfl
    have kde_0 := bxde.c 0 (.bool sj) rfl
    have kde_1 := bxde.c 1 (.slice Aj Lj cj) rfl
    go_wp2_with fail
    clear kr_0 kr_1 kr_2 klo_0 klo_1 klo_2 khi_0 khi_1 khi_2 knu_0 knu_1 kde_0 kde_1
    refine (HBT.out _ (HU.out.1.num.zv.ext (by with_reducible repeat' first | exact Ext.refl _ | assumption | apply Ext.alloc_r | apply Ext.drew_r | apply Ext.drewN_r | refine Ext.trans ?_ ‹Ext _ _›)) (HU.out.1.dz.ext (by with_reducible repeat' first | exact Ext.refl _ | assumption | apply Ext.alloc_r | apply Ext.drew_r | apply Ext.drewN_r | refine Ext.trans ?_ ‹Ext _ _›)) (HU.out.2.num.zv.ext (by with_reducible repeat' first | exact Ext.refl _ | assumption | apply Ext.alloc_r | apply Ext.drew_r | apply Ext.drewN_r | refine Ext.trans ?_ ‹Ext _ _›)) (HU.out.2.dz.ext (by with_reducible repeat' first | exact Ext.refl _ | assumption | apply Ext.alloc_r | apply Ext.drew_r | apply Ext.drewN_r | refine Ext.trans ?_ ‹Ext _ _›))).mono ?_
    rintro e w9 ⟨sb, Ab, cb, Lb, tb, Bb, db, Mb, rfl, b1, b2, x9⟩
    have szw9 : w8.heap.size ≤ w9.heap.size := x9.size
    replace bxr := bxr.ext x9
    replace bxlo := bxlo.ext x9
    replace bxhi := bxhi.ext x9
    replace bxnu := bxnu.ext x9
    replace bxde := bxde.ext x9
    have HB := Lib.hid (And.intro (b1.mono (show w.heap.size ≤ _ by omega)) (b2.mono (show w.heap.size ≤ _ by omega)))
    clear b1 b2 HBT
    have kr_0 := bxr.c 0 (.bool false) rfl
    have kr_1 := bxr.c 1 (.slice none 0 0) rfl
    have kr_2 := bxr.c 2 (.slice none 0 0) rfl
    have klo_0 := bxlo.c 0 (.bool su) rfl
    have klo_1 := bxlo.c 1 (.slice Au Lu cu) rfl
    have klo_2 := bxlo.c 2 (.slice Bu Mu du) rfl
    have khi_0 := bxhi.c 0 (.bool sv) rfl
    have khi_1 := bxhi.c 1 (.slice Av Lv cv) rfl
    have khi_2 := bxhi.c 2 (.slice Bv Mv dv) rfl
    have knu_0 := bxnu.c 0 (.bool si) rfl
    have fnu_0 := bxnu.f 0
    have knu_1 := bxnu.c 1 (.slice Ai Li ci) rfl
    have fnu_1 := bxnu.f 1
    have kde_0 := bxde.c 0 (.bool sj) rfl
    have fde_0 := bxde.f 0
    have kde_1 := bxde.c 1 (.slice Aj Lj cj) rfl
    have fde_1 := bxde.f 1
    go_wp2_with fail
    clear kr_0 kr_1 kr_2 klo_0 klo_1 klo_2 khi_0 khi_1 khi_2 knu_0 fnu_0 knu_1 fnu_1 kde_0 fde_0 kde_1 fde_1
    have y1 := HB.out.1
    have y2 := HB.out.2
    clear HB HI HJ
    obtain ⟨w10, hw⟩ : ∃ z : World, z = ((((w9.setCell ⟨w5.heap.size, 0, none⟩ (.bool sb)).setCell ⟨w5.heap.size, 1, none⟩ (.slice Ab Lb cb)).setCell ⟨w5.heap.size + 1, 0, none⟩ (.bool tb)).setCell ⟨w5.heap.size + 1, 1, none⟩ (.slice Bb Mb db)) := ⟨_, rfl⟩
    rw [← hw]
    have kw10 : Kept w9 w10 := by rw [hw]; exact (Kept.set_ (Kept.set_ (Kept.set_ (Kept.set_ (Kept.refl _) bxnu.isBox plain_int) (IsBox.set_ bxnu.isBox) plain_int) (IsBox.set_ (IsBox.set_ bxde.isBox)) plain_int) (IsBox.set_ (IsBox.set_ (IsBox.set_ bxde.isBox))) plain_int)
    have nbr : BK w10 (w.heap.size + 1 + 1) 27 #[.bool false, .slice none 0 0, .slice none 0 0] := by rw [hw]; exact (BK.far (BK.far (BK.far (BK.far bxr (show w.heap.size + 1 + 1 ≠ w5.heap.size by omega) 0 _) (show w.heap.size + 1 + 1 ≠ w5.heap.size by omega) 1 _) (show w.heap.size + 1 + 1 ≠ w5.heap.size + 1 by omega) 0 _) (show w.heap.size + 1 + 1 ≠ w5.heap.size + 1 by omega) 1 _)
    have nblo : BK w10 (b6) 27 #[.bool su, .slice Au Lu cu, .slice Bu Mu du] := by rw [hw]; exact (BK.far (BK.far (BK.far (BK.far bxlo (show b6 ≠ w5.heap.size by omega) 0 _) (show b6 ≠ w5.heap.size by omega) 1 _) (show b6 ≠ w5.heap.size + 1 by omega) 0 _) (show b6 ≠ w5.heap.size + 1 by omega) 1 _)
    have nbhi : BK w10 (b7) 27 #[.bool sv, .slice Av Lv cv, .slice Bv Mv dv] := by rw [hw]; exact (BK.far (BK.far (BK.far (BK.far bxhi (show b7 ≠ w5.heap.size by omega) 0 _) (show b7 ≠ w5.heap.size by omega) 1 _) (show b7 ≠ w5.heap.size + 1 by omega) 0 _) (show b7 ≠ w5.heap.size + 1 by omega) 1 _)
    have nbnu : BK w10 (w5.heap.size) 25 #[.bool sb, .slice Ab Lb cb] := by rw [hw]; exact (BK.far (BK.far (BK.set (i := 1) (u := .slice Ab Lb cb) (vs' := #[.bool sb, .slice Ab Lb cb]) (BK.set (i := 0) (u := .bool sb) (vs' := #[.bool sb, .slice Ai Li ci]) bxnu rfl) rfl) (show w5.heap.size ≠ w5.heap.size + 1 by omega) 0 _) (show w5.heap.size ≠ w5.heap.size + 1 by omega) 1 _)
    have nbde : BK w10 (w5.heap.size + 1) 25 #[.bool tb, .slice Bb Mb db] := by rw [hw]; exact (BK.set (i := 1) (u := .slice Bb Mb db) (vs' := #[.bool tb, .slice Bb Mb db]) (BK.set (i := 0) (u := .bool tb) (vs' := #[.bool tb, .slice Aj Lj cj]) (BK.far (BK.far bxde (show w5.heap.size + 1 ≠ w5.heap.size by omega) 0 _) (show w5.heap.size + 1 ≠ w5.heap.size by omega) 1 _) rfl) rfl)
    have x10 : Ext w w10 := by rw [hw]; have hxp : Ext w w9 := (by with_reducible repeat' first | exact Ext.refl _ | assumption | apply Ext.alloc_r | apply Ext.drew_r | apply Ext.drewN_r | refine Ext.trans ?_ ‹Ext _ _›); exact (Ext.set_ (Ext.set_ (Ext.set_ (Ext.set_ hxp (show _ ≤ w5.heap.size by omega)) (show _ ≤ w5.heap.size by omega)) (show _ ≤ w5.heap.size + 1 by omega)) (show _ ≤ w5.heap.size + 1 by omega))
    clear bxr
    clear bxlo
    clear bxhi
    clear bxnu
    clear bxde
    have bxr := nbr
    clear nbr
    have bxlo := nblo
    clear nblo
    have bxhi := nbhi
    clear nbhi
    have bxnu := nbnu
    clear nbnu
    have bxde := nbde
    clear nbde
    have szw10 : w10.heap.size = w9.heap.size := by rw [hw]; simp
    replace y1 := (y1.ext (by with_reducible repeat' first | exact Ext.refl _ | assumption | apply Ext.alloc_r | apply Ext.drew_r | apply Ext.drewN_r | refine Ext.trans ?_ ‹Ext _ _›)).kept kw10
    replace y2 := (y2.ext (by with_reducible repeat' first | exact Ext.refl _ | assumption | apply Ext.alloc_r | apply Ext.drew_r | apply Ext.drewN_r | refine Ext.trans ?_ ‹Ext _ _›)).kept kw10
    clear hw kw10
    have HN := Lib.hid (show ZV w10 false Ab cb Lb q.num from ⟨y1.zv.nv, (fun h => by cases h), fun _ => HNN.out⟩)
    have HY2 := Lib.hid y2
    clear y1 y2
    have hd0 : dl q.num.natAbs ≤ 17592186044416 := by have h5 := HBD.out.1; omega
    have kr_0 := bxr.c 0 (.bool false) rfl
    have kr_1 := bxr.c 1 (.slice none 0 0) rfl
    have kr_2 := bxr.c 2 (.slice none 0 0) rfl
    have klo_0 := bxlo.c 0 (.bool su) rfl
    have klo_1 := bxlo.c 1 (.slice Au Lu cu) rfl
    have klo_2 := bxlo.c 2 (.slice Bu Mu du) rfl
    have khi_0 := bxhi.c 0 (.bool sv) rfl
    have khi_1 := bxhi.c 1 (.slice Av Lv cv) rfl
    have khi_2 := bxhi.c 2 (.slice Bv Mv dv) rfl
    have knu_0 := bxnu.c 0 (.bool sb) rfl
    have knu_1 := bxnu.c 1 (.slice Ab Lb cb) rfl
    have kde_0 := bxde.c 0 (.bool tb) rfl
    have kde_1 := bxde.c 1 (.slice Bb Mb db) rfl
    go_wp2_with fail
    clear kr_0 kr_1 kr_2 klo_0 klo_1 klo_2 khi_0 khi_1 khi_2 knu_0 knu_1 kde_0 kde_1
    go_step3
    go_wp2_with fail
    have kr_0 := bxr.c 0 (.bool false) rfl
    have fr_0 := bxr.f 0
    have kr_1 := bxr.c 1 (.slice none 0 0) rfl
    have fr_1 := bxr.f 1
    have kr_2 := bxr.c 2 (.slice none 0 0) rfl
    have fr_2 := bxr.f 2
    have klo_0 := bxlo.c 0 (.bool su) rfl
    have klo_1 := bxlo.c 1 (.slice Au Lu cu) rfl
    have klo_2 := bxlo.c 2 (.slice Bu Mu du) rfl
    have khi_0 := bxhi.c 0 (.bool sv) rfl
    have khi_1 := bxhi.c 1 (.slice Av Lv cv) rfl
    have khi_2 := bxhi.c 2 (.slice Bv Mv dv) rfl
    have knu_0 := bxnu.c 0 (.bool sb) rfl
    have knu_1 := bxnu.c 1 (.slice Ab Lb cb) rfl
    have kde_0 := bxde.c 0 (.bool tb) rfl
    have kde_1 := bxde.c 1 (.slice Bb Mb db) rfl
    go_wp2_with fail
    have HK : Hid (∀ w', Ext w10 w' → (w'.cell? ⟨w5.heap.size, 0, none⟩ = some (.bool sb) ∧ w'.cell? ⟨w5.heap.size, 1, none⟩ = some (.slice Ab Lb cb) ∧ w'.cell? ⟨w5.heap.size + 1, 0, none⟩ = some (.bool tb) ∧ w'.cell? ⟨w5.heap.size + 1, 1, none⟩ = some (.slice Bb Mb db))) := fun w' hk => ⟨hk.cell knu_0, hk.cell knu_1, hk.cell kde_0, hk.cell kde_1⟩
    have nernu : w.heap.size + 1 + 1 ≠ w5.heap.size := by omega
    have nerde : w.heap.size + 1 + 1 ≠ w5.heap.size + 1 := by omega
    have HSr : Hid (∀ (w' : World) (i : Nat) (u : Value), (w'.cell? ⟨w5.heap.size, 0, none⟩ = some (.bool sb) ∧ w'.cell? ⟨w5.heap.size, 1, none⟩ = some (.slice Ab Lb cb) ∧ w'.cell? ⟨w5.heap.size + 1, 0, none⟩ = some (.bool tb) ∧ w'.cell? ⟨w5.heap.size + 1, 1, none⟩ = some (.slice Bb Mb db)) → ((fun (w' : World) => (w'.cell? ⟨w5.heap.size, 0, none⟩ = some (.bool sb) ∧ w'.cell? ⟨w5.heap.size, 1, none⟩ = some (.slice Ab Lb cb) ∧ w'.cell? ⟨w5.heap.size + 1, 0, none⟩ = some (.bool tb) ∧ w'.cell? ⟨w5.heap.size + 1, 1, none⟩ = some (.slice Bb Mb db))) (w'.setCell ⟨w.heap.size + 1 + 1, i, none⟩ u))) := fun w' i u hs => ⟨cell_far nernu hs.1, cell_far nernu hs.2.1, cell_far nerde hs.2.2.1, cell_far nerde hs.2.2.2⟩
    go_region_held3 (fun w' => w'.cell? ⟨w5.heap.size, 0, none⟩ = some (.bool sb) ∧ w'.cell? ⟨w5.heap.size, 1, none⟩ = some (.slice Ab Lb cb) ∧ w'.cell? ⟨w5.heap.size + 1, 0, none⟩ = some (.bool tb) ∧ w'.cell? ⟨w5.heap.size + 1, 1, none⟩ = some (.slice Bb Mb db))
      (((repeat (first | (with_reducible refine HSr.out _ _ _ ?_))); (with_reducible refine HK.out _ ?_; (with_reducible repeat' first | exact Ext.refl _ | assumption | apply Ext.alloc_r | apply Ext.drew_r | apply Ext.drewN_r | refine Ext.trans ?_ ‹Ext _ _›))))
      (first
        | (go_at_call 88; refine (from_z (HN.out.ext (by with_reducible repeat' first | exact Ext.refl _ | assumption | apply Ext.alloc_r | apply Ext.drew_r | apply Ext.drewN_r | refine Ext.trans ?_ ‹Ext _ _›)) hd0).mono ?_; rintro e w11 ⟨sz, Az, cz, Lz, rfl, z, x11⟩; have yl : Ext w10 w11 := (by with_reducible repeat' first | exact Ext.refl _ | assumption | apply Ext.alloc_r | apply Ext.drew_r | apply Ext.drewN_r | refine Ext.trans ?_ ‹Ext _ _›); have cr_0 := (bxr.ext yl).c 0 (.bool false) rfl; have gr_0 := (bxr.ext yl).f 0; have cr_1 := (bxr.ext yl).c 1 (.slice none 0 0) rfl; have gr_1 := (bxr.ext yl).f 1; have cr_2 := (bxr.ext yl).c 2 (.slice none 0 0) rfl; have gr_2 := (bxr.ext yl).f 2))
    clear kr_0 fr_0 kr_1 fr_1 kr_2 fr_2 klo_0 klo_1 klo_2 khi_0 khi_1 khi_2 knu_0 knu_1 kde_0 kde_1
    clear HK HSr nernu nerde
    clear cr_0 gr_0
    clear cr_1 gr_1
    clear cr_2 gr_2
    clear yl
    have xhw11 : Ext w10 w11 := (by with_reducible repeat' first | exact Ext.refl _ | assumption | apply Ext.alloc_r | apply Ext.drew_r | apply Ext.drewN_r | refine Ext.trans ?_ ‹Ext _ _›)
    have szw11 : w10.heap.size ≤ w11.heap.size := xhw11.size
    replace bxr := bxr.ext xhw11
    replace bxlo := bxlo.ext xhw11
    replace bxhi := bxhi.ext xhw11
    replace bxnu := bxnu.ext xhw11
    replace bxde := bxde.ext xhw11
    have HZ := Lib.hid (z.mono (show w.heap.size ≤ _ by first | omega | (simp only [World.size_drew]; omega)))
    clear z
    have zz := HZ.out
    have zd := HY2.out
    clear HZ
    obtain ⟨w12, hw⟩ : ∃ z : World, z = (((w11.setCell ⟨w.heap.size + 1 + 1, 0, none⟩ (.bool sz)).setCell ⟨w.heap.size + 1 + 1, 1, none⟩ (.slice Az Lz cz)).setCell ⟨w.heap.size + 1 + 1, 2, none⟩ (.slice Bb Mb db)) := ⟨_, rfl⟩
    rw [← hw]
    have kw12 : Kept w11 w12 := by rw [hw]; exact (Kept.set_ (Kept.set_ (Kept.set_ (Kept.refl _) bxr.isBox plain_rat) (IsBox.set_ bxr.isBox) plain_rat) (IsBox.set_ (IsBox.set_ bxr.isBox)) plain_rat)
    have nbr : BK w12 (w.heap.size + 1 + 1) 27 #[.bool sz, .slice Az Lz cz, .slice Bb Mb db] := by rw [hw]; exact (BK.set (i := 2) (u := .slice Bb Mb db) (vs' := #[.bool sz, .slice Az Lz cz, .slice Bb Mb db]) (BK.set (i := 1) (u := .slice Az Lz cz) (vs' := #[.bool sz, .slice Az Lz cz, .slice none 0 0]) (BK.set (i := 0) (u := .bool sz) (vs' := #[.bool sz, .slice none 0 0, .slice none 0 0]) bxr rfl) rfl) rfl)
    have nblo : BK w12 (b6) 27 #[.bool su, .slice Au Lu cu, .slice Bu Mu du] := by rw [hw]; exact (BK.far (BK.far (BK.far bxlo (show b6 ≠ w.heap.size + 1 + 1 by omega) 0 _) (show b6 ≠ w.heap.size + 1 + 1 by omega) 1 _) (show b6 ≠ w.heap.size + 1 + 1 by omega) 2 _)
    have nbhi : BK w12 (b7) 27 #[.bool sv, .slice Av Lv cv, .slice Bv Mv dv] := by rw [hw]; exact (BK.far (BK.far (BK.far bxhi (show b7 ≠ w.heap.size + 1 + 1 by omega) 0 _) (show b7 ≠ w.heap.size + 1 + 1 by omega) 1 _) (show b7 ≠ w.heap.size + 1 + 1 by omega) 2 _)
    have nbnu : BK w12 (w5.heap.size) 25 #[.bool sb, .slice Ab Lb cb] := by rw [hw]; exact (BK.far (BK.far (BK.far bxnu (show w5.heap.size ≠ w.heap.size + 1 + 1 by omega) 0 _) (show w5.heap.size ≠ w.heap.size + 1 + 1 by omega) 1 _) (show w5.heap.size ≠ w.heap.size + 1 + 1 by omega) 2 _)
    have nbde : BK w12 (w5.heap.size + 1) 25 #[.bool tb, .slice Bb Mb db] := by rw [hw]; exact (BK.far (BK.far (BK.far bxde (show w5.heap.size + 1 ≠ w.heap.size + 1 + 1 by omega) 0 _) (show w5.heap.size + 1 ≠ w.heap.size + 1 + 1 by omega) 1 _) (show w5.heap.size + 1 ≠ w.heap.size + 1 + 1 by omega) 2 _)
    have x12 : Ext w w12 := by rw [hw]; have hxp : Ext w w11 := (by with_reducible repeat' first | exact Ext.refl _ | assumption | apply Ext.alloc_r | apply Ext.drew_r | apply Ext.drewN_r | refine Ext.trans ?_ ‹Ext _ _›); exact (Ext.set_ (Ext.set_ (Ext.set_ hxp (show _ ≤ w.heap.size + 1 + 1 by omega)) (show _ ≤ w.heap.size + 1 + 1 by omega)) (show _ ≤ w.heap.size + 1 + 1 by omega))
    clear bxr
    clear bxlo
    clear bxhi
    clear bxnu
    clear bxde
    have bxr := nbr
    clear nbr
    have bxlo := nblo
    clear nblo
    have bxhi := nbhi
    clear nbhi
    have bxnu := nbnu
    clear nbnu
    have bxde := nbde
    clear nbde
    have szw12 : w12.heap.size = w11.heap.size := by rw [hw]; simp
    replace zz := (zz.ext (by with_reducible repeat' first | exact Ext.refl _ | assumption | apply Ext.alloc_r | apply Ext.drew_r | apply Ext.drewN_r | refine Ext.trans ?_ ‹Ext _ _›)).kept kw12
    replace zd := (zd.ext (by with_reducible repeat' first | exact Ext.refl _ | assumption | apply Ext.alloc_r | apply Ext.drew_r | apply Ext.drewN_r | refine Ext.trans ?_ ‹Ext _ _›)).kept kw12
    clear hw kw12
    have HZ := Lib.hid zz
    have HDN := Lib.hid zd
    clear zz zd
    have kr_0 := bxr.c 0 (.bool sz) rfl
    have kr_1 := bxr.c 1 (.slice Az Lz cz) rfl
    have kr_2 := bxr.c 2 (.slice Bb Mb db) rfl
    have klo_0 := bxlo.c 0 (.bool su) rfl
    have klo_1 := bxlo.c 1 (.slice Au Lu cu) rfl
    have klo_2 := bxlo.c 2 (.slice Bu Mu du) rfl
    have khi_0 := bxhi.c 0 (.bool sv) rfl
    have khi_1 := bxhi.c 1 (.slice Av Lv cv) rfl
    have khi_2 := bxhi.c 2 (.slice Bv Mv dv) rfl
    have knu_0 := bxnu.c 0 (.bool sb) rfl
    have knu_1 := bxnu.c 1 (.slice Ab Lb cb) rfl
    have kde_0 := bxde.c 0 (.bool tb) rfl
    have kde_1 := bxde.c 1 (.slice Bb Mb db) rfl
    go_wp2_with fail
    clear kr_0 kr_1 kr_2 klo_0 klo_1 klo_2 khi_0 khi_1 khi_2 knu_0 knu_1 kde_0 kde_1
    rw [Exit.noGoto_ret]
    have hro : RO w12 w.heap.size sz Az cz Lz Bb db Mb (K + 1) q := ⟨HZ.out, by have h5 := HDN.out.no; rwa [Int.natAbs_natCast] at h5, by have h5 := HDN.out.len; rwa [Int.natAbs_natCast] at h5, HBD.out.1, HBD.out.2⟩
    have HRO := Lib.hid hro
    clear hro HZ
    have kr_0 := bxr.c 0 (.bool sz) rfl
    have kr_1 := bxr.c 1 (.slice Az Lz cz) rfl
    have kr_2 := bxr.c 2 (.slice Bb Mb db) rfl
    refine bodyPost_ret (v := .tuple #[.agg #[.bool sz, .slice Az Lz cz, .slice Bb Mb db], .int .i64 0]) (by simp [results, Try.results51, go_sem, kr_0, kr_1, kr_2]) rfl ?_
    exact ⟨_, _, _, _, _, _, _, rfl, HRO.out, x12⟩
set_option maxHeartbeats 4000000 in
set_option maxRecDepth 100000 in
theorem rsimp_neg {w : World} {s1 s2 : Bool} {A1 A2 B1 B2 : Option Addr} {c1 c2 d1 d2 L1 L2 M1 M2 K : Nat} {q1 q2 : Rat} (h1 : RV w s1 A1 c1 L1 B1 d1 M1 K q1) (h2 : RV w s2 A2 c2 L2 B2 d2 M2 K q2) (hK : K ≤ 40) (hab : q1 < q2) (ha : q1.num < 0) (hb : q2.num ≤ 0) {q : Rat} (hq : IsSimp q1 q2 q) :
    Calls Try.prog 51 #[Value.agg #[.bool s1, .slice A1 L1 c1, .slice B1 M1 d1], Value.agg #[.bool s2, .slice A2 L2 c2, .slice B2 M2 d2]] w (RetRE w (K + 1) q) := by
  have hK1 : 1 ≤ K := h1.one
  obtain ⟨C, hC⟩ : ∃ C : Int, C = cmpQ q1 q2 := ⟨_, rfl⟩
  have hcn : ¬ 0 ≤ C := by rw [hC]; unfold cmpQ; rw [if_pos hab]; omega
  have HC := Lib.hid hC.symm
  clear hC
  have HE1 : Hid (q1.num.sign = -1) := Int.sign_eq_neg_one_of_neg ha
  obtain ⟨S2, hS2⟩ : ∃ S2 : Int, S2 = q2.num.sign := ⟨_, rfl⟩
  have hs2 : ¬ S2 > 0 := by rw [hS2]; rcases sign_cases q2.num with ⟨h5, h6⟩ | ⟨h5, h6⟩ | ⟨h5, h6⟩ <;> omega
  have HE2 := Lib.hid hS2.symm
  have HBD : Hid (dl q.num.natAbs ≤ K + 1 ∧ dl q.den ≤ K + 1) := by
    show _ ∧ _
    obtain ⟨b1, b2⟩ := hq.bound
    obtain ⟨d1, d2⟩ := rv_dl h1
    obtain ⟨d3, d4⟩ := rv_dl h2
    exact ⟨Nat.le_trans (dl_mono b2) (dl_add2 d1 d3), Nat.le_trans (dl_mono b1) (dl_add2 d2 d4)⟩
  have HD4 : Hid (dl q1.num.natAbs ≤ K ∧ dl q1.den ≤ K ∧ dl q2.num.natAbs ≤ K ∧ dl q2.den ≤ K) := ⟨(rv_dl h1).1, (rv_dl h1).2, (rv_dl h2).1, (rv_dl h2).2⟩
  have hn2 : 0 ≤ (-q2).num := by rw [Rat.neg_num]; omega
  have HNN := Lib.hid (simp_nn hn2 hq.neg)
  have HBT : Hid (∀ w' {s1 s2 s3 s4 : Bool} {A1 A2 A3 A4 : Option Addr} {c1 c2 c3 c4 L1 L2 L3 L4 : Nat}, ZV w' s1 A1 c1 L1 (-q2).num → ZV w' s2 A2 c2 L2 ((-q2).den : Int) → ZV w' s3 A3 c3 L3 (-q1).num → ZV w' s4 A4 c4 L4 ((-q1).den : Int) → Calls Try.prog 89 #[Value.agg #[.bool s1, .slice A1 L1 c1], Value.agg #[.bool s2, .slice A2 L2 c2], Value.agg #[.bool s3, .slice A3 L3 c3], Value.agg #[.bool s4, .slice A4 L4 c4]] w' (RetB2 w' (-q).num (q.den : Int))) := fun w' _ _ _ _ _ _ _ _ _ _ _ _ _ _ _ _ g1 g2 g3 g4 =>
    between_q hK hn2 (Rat.neg_lt_neg hab) hq.neg (by rw [Rat.neg_num, Int.natAbs_neg]; exact HD4.out.2.2.1) HD4.out.2.2.2 (by rw [Rat.neg_num, Int.natAbs_neg]; exact HD4.out.1) HD4.out.2.1 g1 g2 g3 g4
  clear hq hab ha hb hS2 HD4 hn2
  go_enter Try.func51, Try.ntmps51
  go_wp2_with fail
  go_step3
  go_wp2_with fail
  obtain ⟨w0, hw0⟩ : ∃ z : World, z = (((w.alloc (.cells #[.bool s1, .slice A1 L1 c1, .slice B1 M1 d1] 27)).alloc (.cells #[.bool s2, .slice A2 L2 c2, .slice B2 M2 d2] 27)).alloc (.cells #[.bool false, .slice none 0 0, .slice none 0 0] 27)) := ⟨_, rfl⟩
  rw [← hw0]
  have bxa : BK w0 (w.heap.size) 27 #[.bool s1, .slice A1 L1 c1, .slice B1 M1 d1] := by rw [hw0]; have h5 := (BK.ext (BK.ext (BK.new w #[.bool s1, .slice A1 L1 c1, .slice B1 M1 d1] 27) (Ext.alloc _ (.cells #[.bool s2, .slice A2 L2 c2, .slice B2 M2 d2] 27))) (Ext.alloc _ (.cells #[.bool false, .slice none 0 0, .slice none 0 0] 27))); simpa only [World.size_alloc] using h5
  have bxb : BK w0 (w.heap.size + 1) 27 #[.bool s2, .slice A2 L2 c2, .slice B2 M2 d2] := by rw [hw0]; have h5 := (BK.ext (BK.new (w.alloc (.cells #[.bool s1, .slice A1 L1 c1, .slice B1 M1 d1] 27)) #[.bool s2, .slice A2 L2 c2, .slice B2 M2 d2] 27) (Ext.alloc _ (.cells #[.bool false, .slice none 0 0, .slice none 0 0] 27))); simpa only [World.size_alloc] using h5
  have bxr : BK w0 (w.heap.size + 1 + 1) 27 #[.bool false, .slice none 0 0, .slice none 0 0] := by rw [hw0]; have h5 := (BK.new ((w.alloc (.cells #[.bool s1, .slice A1 L1 c1, .slice B1 M1 d1] 27)).alloc (.cells #[.bool s2, .slice A2 L2 c2, .slice B2 M2 d2] 27)) #[.bool false, .slice none 0 0, .slice none 0 0] 27); simpa only [World.size_alloc] using h5
  have hszw0 : w0.heap.size = w.heap.size + 1 + 1 + 1 := by rw [hw0]; simp only [World.size_alloc]
  have xw0 : Ext w w0 := by rw [hw0]; exact (((Ext.alloc _ _).trans (Ext.alloc _ _)).trans (Ext.alloc _ _))
  clear hw0
  refine (rcmp_e (h1.ext (by with_reducible repeat' first | exact Ext.refl _ | assumption | apply Ext.alloc_r | apply Ext.drew_r | apply Ext.drewN_r | refine Ext.trans ?_ ‹Ext _ _›)) (h2.ext (by with_reducible repeat' first | exact Ext.refl _ | assumption | apply Ext.alloc_r | apply Ext.drew_r | apply Ext.drewN_r | refine Ext.trans ?_ ‹Ext _ _›)) (by omega) (by omega) HC.out).mono ?_
  rintro e w1 ⟨rfl, x1⟩
  have szw1 : w0.heap.size ≤ w1.heap.size := x1.size
  replace bxa := bxa.ext x1
  replace bxb := bxb.ext x1
  replace bxr := bxr.ext x1
  clear HC
  have ka_0 := bxa.c 0 (.bool s1) rfl
  have ka_1 := bxa.c 1 (.slice A1 L1 c1) rfl
  have ka_2 := bxa.c 2 (.slice B1 M1 d1) rfl
  have kb_0 := bxb.c 0 (.bool s2) rfl
  have kb_1 := bxb.c 1 (.slice A2 L2 c2) rfl
  have kb_2 := bxb.c 2 (.slice B2 M2 d2) rfl
  have HSZ := Lib.hid (And.intro True.intro (And.intro hszw0 szw1))
  clear hszw0 szw1
  go_wp2_with fail
  go_cut [6, 7] (fun s6 s7 wx => PutLB w1 wx K q1 q2 s6 s7)
  case first =>
    have HK : Hid (∀ w', Ext w1 w' → Ext w1 w' ∧ w'.cell? ⟨w.heap.size, 0, none⟩ = some (.bool s1) ∧ w'.cell? ⟨w.heap.size, 1, none⟩ = some (.slice A1 L1 c1) ∧ w'.cell? ⟨w.heap.size, 2, none⟩ = some (.slice B1 M1 d1) ∧ w'.cell? ⟨w.heap.size + 1, 0, none⟩ = some (.bool s2) ∧ w'.cell? ⟨w.heap.size + 1, 1, none⟩ = some (.slice A2 L2 c2) ∧ w'.cell? ⟨w.heap.size + 1, 2, none⟩ = some (.slice B2 M2 d2)) := fun w' hk => ⟨hk, hk.cell ka_0, hk.cell ka_1, hk.cell ka_2, hk.cell kb_0, hk.cell kb_1, hk.cell kb_2⟩
    first
    | go_region_held3 (fun w' => Ext w1 w' ∧ w'.cell? ⟨w.heap.size, 0, none⟩ = some (.bool s1) ∧ w'.cell? ⟨w.heap.size, 1, none⟩ = some (.slice A1 L1 c1) ∧ w'.cell? ⟨w.heap.size, 2, none⟩ = some (.slice B1 M1 d1) ∧ w'.cell? ⟨w.heap.size + 1, 0, none⟩ = some (.bool s2) ∧ w'.cell? ⟨w.heap.size + 1, 1, none⟩ = some (.slice A2 L2 c2) ∧ w'.cell? ⟨w.heap.size + 1, 2, none⟩ = some (.slice B2 M2 d2))
        ((with_reducible refine HK.out _ ?_; (repeat' (first | with_reducible exact Ext.refl _ | with_reducible assumption | with_reducible apply Ext.alloc_r | with_reducible apply Ext.drew_r | with_reducible apply Ext.drewN_r | with_reducible apply Ext.set_r | with_reducible exact Nat.le_refl _ | omega | with_reducible refine Ext.trans ?_ ‹Ext _ _›))))
        (first
          | (go_at_call_of 47 (#[Value.agg #[.bool s2, .slice A2 L2 c2, .slice B2 M2 d2]]); have hgd := u; clear hgd; refine (rnormal_r (h2.ext (by with_reducible repeat' first | exact Ext.refl _ | assumption | apply Ext.alloc_r | apply Ext.drew_r | apply Ext.drewN_r | refine Ext.trans ?_ ‹Ext _ _›)) (by omega)).mono ?_; rintro e w3 ⟨sv, Av, cv, Lv, Bv, dv, Mv, rfl, v, x3⟩; (have zs3 := x3.size); (try simp only [World.size_alloc] at zs3); (try ((with_reducible have h3_0 := box_ext (vs := #[.bool false, .slice none 0 0, .slice none 0 0]) x3); have h3_0c0 := (h3_0.1 0 (.bool false) rfl).1; have h3_0f0 := (h3_0.1 0 (.bool false) rfl).2; have h3_0c1 := (h3_0.1 1 (.slice none 0 0) rfl).1; have h3_0f1 := (h3_0.1 1 (.slice none 0 0) rfl).2; have h3_0c2 := (h3_0.1 2 (.slice none 0 0) rfl).1; have h3_0f2 := (h3_0.1 2 (.slice none 0 0) rfl).2; have h3_0b := h3_0.2.1; have h3_0z := h3_0.2.2; (try simp only [World.size_alloc] at h3_0b h3_0z h3_0c0 h3_0f0 h3_0c1 h3_0f1 h3_0c2 h3_0f2); have h3_0m := Nat.ne_of_lt h3_0z; have h3_0n := Nat.ne_of_gt h3_0z; clear h3_0)); (try ((with_reducible have h3_1 := box_ext (vs := #[.bool false, .slice none 0 0, .slice none 0 0]) ((Ext.alloc _ _).trans x3)); have h3_1c0 := (h3_1.1 0 (.bool false) rfl).1; have h3_1f0 := (h3_1.1 0 (.bool false) rfl).2; have h3_1c1 := (h3_1.1 1 (.slice none 0 0) rfl).1; have h3_1f1 := (h3_1.1 1 (.slice none 0 0) rfl).2; have h3_1c2 := (h3_1.1 2 (.slice none 0 0) rfl).1; have h3_1f2 := (h3_1.1 2 (.slice none 0 0) rfl).2; have h3_1b := h3_1.2.1; have h3_1z := h3_1.2.2; (try simp only [World.size_alloc] at h3_1b h3_1z h3_1c0 h3_1f0 h3_1c1 h3_1f1 h3_1c2 h3_1f2); have h3_1m := Nat.ne_of_lt h3_1z; have h3_1n := Nat.ne_of_gt h3_1z; clear h3_1)); (try (have hh : Ext w2 w3 := ?g300; (case g300 => ((with_reducible repeat' first | exact Ext.refl _ | assumption | apply Ext.alloc_r | apply Ext.drew_r | apply Ext.drewN_r | refine Ext.trans ?_ ‹Ext _ _›); done)); replace h2_0f0 := hh.frozen h2_0c0 h2_0f0; replace h2_0c0 := hh.cell h2_0c0; replace h2_0f1 := hh.frozen h2_0c1 h2_0f1; replace h2_0c1 := hh.cell h2_0c1; replace h2_0f2 := hh.frozen h2_0c2 h2_0f2; replace h2_0c2 := hh.cell h2_0c2; replace h2_0b := h2_0b.ext hh; have h2_0z2 := Nat.lt_of_lt_of_le h2_0z hh.size; have h2_0m2 := Nat.ne_of_lt h2_0z2; have h2_0n2 := Nat.ne_of_gt h2_0z2; clear hh)); (try (have hh : Ext w2 w3 := ?g301; (case g301 => ((with_reducible repeat' first | exact Ext.refl _ | assumption | apply Ext.alloc_r | apply Ext.drew_r | apply Ext.drewN_r | refine Ext.trans ?_ ‹Ext _ _›); done)); replace h2_1f0 := hh.frozen h2_1c0 h2_1f0; replace h2_1c0 := hh.cell h2_1c0; replace h2_1f1 := hh.frozen h2_1c1 h2_1f1; replace h2_1c1 := hh.cell h2_1c1; replace h2_1f2 := hh.frozen h2_1c2 h2_1f2; replace h2_1c2 := hh.cell h2_1c2; replace h2_1b := h2_1b.ext hh; have h2_1z2 := Nat.lt_of_lt_of_le h2_1z hh.size; have h2_1m2 := Nat.ne_of_lt h2_1z2; have h2_1n2 := Nat.ne_of_gt h2_1z2; clear hh)))
          | (go_at_call_of 47 (#[Value.agg #[.bool s1, .slice A1 L1 c1, .slice B1 M1 d1]]); refine (rnormal_r (h1.ext (by with_reducible repeat' first | exact Ext.refl _ | assumption | apply Ext.alloc_r | apply Ext.drew_r | apply Ext.drewN_r | refine Ext.trans ?_ ‹Ext _ _›)) (by omega)).mono ?_; rintro e w2 ⟨su, Au, cu, Lu, Bu, du, Mu, rfl, u, x2⟩; (have zs2 := x2.size); (try simp only [World.size_alloc, World.size_drew] at zs2); (try ((with_reducible have h2_0 := box_ext (vs := #[.bool false, .slice none 0 0, .slice none 0 0]) ((Ext.drew _).trans x2)); have h2_0c0 := (h2_0.1 0 (.bool false) rfl).1; have h2_0f0 := (h2_0.1 0 (.bool false) rfl).2; have h2_0c1 := (h2_0.1 1 (.slice none 0 0) rfl).1; have h2_0f1 := (h2_0.1 1 (.slice none 0 0) rfl).2; have h2_0c2 := (h2_0.1 2 (.slice none 0 0) rfl).1; have h2_0f2 := (h2_0.1 2 (.slice none 0 0) rfl).2; have h2_0b := h2_0.2.1; have h2_0z := h2_0.2.2; (try simp only [World.size_alloc] at h2_0b h2_0z h2_0c0 h2_0f0 h2_0c1 h2_0f1 h2_0c2 h2_0f2); have h2_0m := Nat.ne_of_lt h2_0z; have h2_0n := Nat.ne_of_gt h2_0z; clear h2_0)); (try ((with_reducible have h2_1 := box_ext (vs := #[.bool false, .slice none 0 0, .slice none 0 0]) (((Ext.alloc _ _).trans (Ext.drew _)).trans x2)); have h2_1c0 := (h2_1.1 0 (.bool false) rfl).1; have h2_1f0 := (h2_1.1 0 (.bool false) rfl).2; have h2_1c1 := (h2_1.1 1 (.slice none 0 0) rfl).1; have h2_1f1 := (h2_1.1 1 (.slice none 0 0) rfl).2; have h2_1c2 := (h2_1.1 2 (.slice none 0 0) rfl).1; have h2_1f2 := (h2_1.1 2 (.slice none 0 0) rfl).2; have h2_1b := h2_1.2.1; have h2_1z := h2_1.2.2; (try simp only [World.size_alloc] at h2_1b h2_1z h2_1c0 h2_1f0 h2_1c1 h2_1f1 h2_1c2 h2_1f2); have h2_1m := Nat.ne_of_lt h2_1z; have h2_1n := Nat.ne_of_gt h2_1z; clear h2_1))))
    | fail
    all_goals (clear HK; go_wp2_with fail; go_meet)
    all_goals
      refine PutLB.mk (s1 := su) (A1 := Au) (c1 := cu) (L1 := Lu) (B1 := Bu) (d1 := du) (M1 := Mu) (s2 := sv) (A2 := Av) (c2 := cv) (L2 := Lv) (B2 := Bv) (d2 := dv) (M2 := Mv) ?_ ?_ ?_ ?_ ?_ ?_ ?_ ?_
      · (first | exact Nat.le_refl _ | omega | (simp only [World.size_alloc, World.size_drew]; omega) | (simp; omega))
      · (first | exact Nat.le_refl _ | omega | (simp only [World.size_alloc, World.size_drew]; omega) | (simp; omega))
      · (first | omega | (simp; done) | (simp; omega))
      · (repeat' (first | with_reducible assumption | with_reducible apply BK.set3s | (with_reducible apply BK.far3s; (case hne => (first | assumption | omega | (simp; done) | (simp only [World.size_alloc, World.size_drew]; omega)))) | (with_reducible apply BK.new_s; (first | rfl | (simp; done))) | with_reducible apply BK.alloc_s | with_reducible apply BK.drew_s | with_reducible refine BK.ext ?_ ‹Ext _ _›))
      · (repeat' (first | with_reducible assumption | with_reducible apply BK.set3s | (with_reducible apply BK.far3s; (case hne => (first | assumption | omega | (simp; done) | (simp only [World.size_alloc, World.size_drew]; omega)))) | (with_reducible apply BK.new_s; (first | rfl | (simp; done))) | with_reducible apply BK.alloc_s | with_reducible apply BK.drew_s | with_reducible refine BK.ext ?_ ‹Ext _ _›))
      · exact (u.mono (by first | omega | (simp only [World.size_alloc]; omega) | (simp only [World.size_drew]; omega) | (simp only [World.size_drew, World.size_alloc]; omega))).kept (by (repeat' (first | with_reducible exact Kept.refl _ | with_reducible apply Kept.alloc_r | with_reducible apply Kept.drew_r | (with_reducible apply Kept.setRs; (case hb => ((repeat' (first | with_reducible assumption | with_reducible apply IsBox.set_ | (with_reducible apply IsBox.new; (first | (with_reducible rfl) | simp); done) | with_reducible apply IsBox.alloc_ | with_reducible apply IsBox.drew_ | with_reducible refine IsBox.ext ?_ ‹Ext _ _›)); done))) | with_reducible refine Kept.trans ?_ (Ext.kept ‹Ext _ _›))))
      · exact (v.mono (by first | omega | (simp only [World.size_alloc]; omega) | (simp only [World.size_drew]; omega) | (simp only [World.size_drew, World.size_alloc]; omega))).kept (by (repeat' (first | with_reducible exact Kept.refl _ | with_reducible apply Kept.alloc_r | with_reducible apply Kept.drew_r | (with_reducible apply Kept.setRs; (case hb => ((repeat' (first | with_reducible assumption | with_reducible apply IsBox.set_ | (with_reducible apply IsBox.new; (first | (with_reducible rfl) | simp); done) | with_reducible apply IsBox.alloc_ | with_reducible apply IsBox.drew_ | with_reducible refine IsBox.ext ?_ ‹Ext _ _›)); done))) | with_reducible refine Kept.trans ?_ (Ext.kept ‹Ext _ _›))))
      · (repeat' (first | with_reducible exact Ext.refl _ | with_reducible assumption | with_reducible apply Ext.alloc_r | with_reducible apply Ext.drew_r | with_reducible apply Ext.drewN_r | with_reducible apply Ext.set_r | with_reducible exact Nat.le_refl _ | omega | with_reducible refine Ext.trans ?_ ‹Ext _ _›))
  case rest =>
    obtain ⟨hszw0, szw1⟩ := HSZ.out.2
    clear ka_0 ka_1 ka_2 kb_0 kb_1 kb_2
    obtain ⟨b6, b7, su, Au, cu, Lu, Bu, du, Mu, sv, Av, cv, Lv, Bv, dv, Mv, rfl, rfl, hb6, hb7, hn67, bxlo, bxhi, u, v, hxc⟩ := hcut
    obtain ⟨wq, rfl⟩ : ∃ z : World, z = wc := ⟨_, rfl⟩
    replace bxr := bxr.ext hxc
    have hszq : w1.heap.size ≤ wq.heap.size := hxc.size
    have hl6 := bxlo.lt
    have hl7 := bxhi.lt
    have xq : Ext w wq := (by with_reducible repeat' first | exact Ext.refl _ | assumption | apply Ext.alloc_r | apply Ext.drew_r | apply Ext.drewN_r | refine Ext.trans ?_ ‹Ext _ _›)
    have HU := Lib.hid (And.intro (u.mono (show w.heap.size ≤ _ by omega)) (v.mono (show w.heap.size ≤ _ by omega)))
    clear u v h1 h2 bxa bxb
    have kr_0 := bxr.c 0 (.bool false) rfl
    have kr_1 := bxr.c 1 (.slice none 0 0) rfl
    have kr_2 := bxr.c 2 (.slice none 0 0) rfl
    have klo_0 := bxlo.c 0 (.bool su) rfl
    have klo_1 := bxlo.c 1 (.slice Au Lu cu) rfl
    have klo_2 := bxlo.c 2 (.slice Bu Mu du) rfl
    have khi_0 := bxhi.c 0 (.bool sv) rfl
    have khi_1 := bxhi.c 1 (.slice Av Lv cv) rfl
    have khi_2 := bxhi.c 2 (.slice Bv Mv dv) rfl
    go_wp2_with fail
    clear kr_0 kr_1 kr_2 klo_0 klo_1 klo_2 khi_0 khi_1 khi_2
    refine (of_z (n := 0) (by omega)).mono ?_
    rintro e w4 ⟨si, Ai, ci, Li, rfl, i, x4⟩
    have szw4 : wq.heap.size ≤ w4.heap.size := x4.size
    replace bxr := bxr.ext x4
    replace bxlo := bxlo.ext x4
    replace bxhi := bxhi.ext x4
    have HI := Lib.hid (i.mono (show w.heap.size ≤ _ by omega))
    clear i
    have kr_0 := bxr.c 0 (.bool false) rfl
    have kr_1 := bxr.c 1 (.slice none 0 0) rfl
    have kr_2 := bxr.c 2 (.slice none 0 0) rfl
    have klo_0 := bxlo.c 0 (.bool su) rfl
    have klo_1 := bxlo.c 1 (.slice Au Lu cu) rfl
    have klo_2 := bxlo.c 2 (.slice Bu Mu du) rfl
    have khi_0 := bxhi.c 0 (.bool sv) rfl
    have khi_1 := bxhi.c 1 (.slice Av Lv cv) rfl
    have khi_2 := bxhi.c 2 (.slice Bv Mv dv) rfl
    go_wp2_with fail
    clear kr_0 kr_1 kr_2 klo_0 klo_1 klo_2 khi_0 khi_1 khi_2
    refine (of_z (n := 1) (by omega)).mono ?_
    rintro e w5 ⟨sj, Aj, cj, Lj, rfl, j, x5⟩
    have szw5 : w4.heap.size ≤ w5.heap.size := x5.size
    replace bxr := bxr.ext x5
    replace bxlo := bxlo.ext x5
    replace bxhi := bxhi.ext x5
    have HJ := Lib.hid (j.mono (show w.heap.size ≤ _ by omega))
    clear j
    have kr_0 := bxr.c 0 (.bool false) rfl
    have kr_1 := bxr.c 1 (.slice none 0 0) rfl
    have kr_2 := bxr.c 2 (.slice none 0 0) rfl
    have klo_0 := bxlo.c 0 (.bool su) rfl
    have klo_1 := bxlo.c 1 (.slice Au Lu cu) rfl
    have klo_2 := bxlo.c 2 (.slice Bu Mu du) rfl
    have khi_0 := bxhi.c 0 (.bool sv) rfl
    have khi_1 := bxhi.c 1 (.slice Av Lv cv) rfl
    have khi_2 := bxhi.c 2 (.slice Bv Mv dv) rfl
    have t1r_0 := fun (o0 : Obj) => ((Ext.alloc w5 o0).cell (bxr.c 0 (.bool false) rfl))
    have t2r_0 := fun (o0 : Obj) (o1 : Obj) => ((Ext.alloc (w5.alloc o0) o1).cell ((Ext.alloc w5 o0).cell (bxr.c 0 (.bool false) rfl)))
    have t1r_1 := fun (o0 : Obj) => ((Ext.alloc w5 o0).cell (bxr.c 1 (.slice none 0 0) rfl))
    have t2r_1 := fun (o0 : Obj) (o1 : Obj) => ((Ext.alloc (w5.alloc o0) o1).cell ((Ext.alloc w5 o0).cell (bxr.c 1 (.slice none 0 0) rfl)))
    have t1r_2 := fun (o0 : Obj) => ((Ext.alloc w5 o0).cell (bxr.c 2 (.slice none 0 0) rfl))
    have t2r_2 := fun (o0 : Obj) (o1 : Obj) => ((Ext.alloc (w5.alloc o0) o1).cell ((Ext.alloc w5 o0).cell (bxr.c 2 (.slice none 0 0) rfl)))
    have t1lo_0 := fun (o0 : Obj) => ((Ext.alloc w5 o0).cell (bxlo.c 0 (.bool su) rfl))
    have t2lo_0 := fun (o0 : Obj) (o1 : Obj) => ((Ext.alloc (w5.alloc o0) o1).cell ((Ext.alloc w5 o0).cell (bxlo.c 0 (.bool su) rfl)))
    have t1lo_1 := fun (o0 : Obj) => ((Ext.alloc w5 o0).cell (bxlo.c 1 (.slice Au Lu cu) rfl))
    have t2lo_1 := fun (o0 : Obj) (o1 : Obj) => ((Ext.alloc (w5.alloc o0) o1).cell ((Ext.alloc w5 o0).cell (bxlo.c 1 (.slice Au Lu cu) rfl)))
    have t1lo_2 := fun (o0 : Obj) => ((Ext.alloc w5 o0).cell (bxlo.c 2 (.slice Bu Mu du) rfl))
    have t2lo_2 := fun (o0 : Obj) (o1 : Obj) => ((Ext.alloc (w5.alloc o0) o1).cell ((Ext.alloc w5 o0).cell (bxlo.c 2 (.slice Bu Mu du) rfl)))
    have t1hi_0 := fun (o0 : Obj) => ((Ext.alloc w5 o0).cell (bxhi.c 0 (.bool sv) rfl))
    have t2hi_0 := fun (o0 : Obj) (o1 : Obj) => ((Ext.alloc (w5.alloc o0) o1).cell ((Ext.alloc w5 o0).cell (bxhi.c 0 (.bool sv) rfl)))
    have t1hi_1 := fun (o0 : Obj) => ((Ext.alloc w5 o0).cell (bxhi.c 1 (.slice Av Lv cv) rfl))
    have t2hi_1 := fun (o0 : Obj) (o1 : Obj) => ((Ext.alloc (w5.alloc o0) o1).cell ((Ext.alloc w5 o0).cell (bxhi.c 1 (.slice Av Lv cv) rfl)))
    have t1hi_2 := fun (o0 : Obj) => ((Ext.alloc w5 o0).cell (bxhi.c 2 (.slice Bv Mv dv) rfl))
    have t2hi_2 := fun (o0 : Obj) (o1 : Obj) => ((Ext.alloc (w5.alloc o0) o1).cell ((Ext.alloc w5 o0).cell (bxhi.c 2 (.slice Bv Mv dv) rfl)))
    go_wp2_with fail
    clear kr_0 kr_1 kr_2 klo_0 klo_1 klo_2 khi_0 khi_1 khi_2 t1r_0 t2r_0 t1r_1 t2r_1 t1r_2 t2r_2 t1lo_0 t2lo_0 t1lo_1 t2lo_1 t1lo_2 t2lo_2 t1hi_0 t2hi_0 t1hi_1 t2hi_1 t1hi_2 t2hi_2
    obtain ⟨w6, hw⟩ : ∃ z : World, z = ((w5.alloc (.cells #[.bool si, .slice Ai Li ci] 25)).alloc (.cells #[.bool sj, .slice Aj Lj cj] 25)) := ⟨_, rfl⟩
    rw [← hw]
    have x6 : Ext w5 w6 := by rw [hw]; exact ((Ext.alloc _ _).trans (Ext.alloc _ _))
    replace bxr := bxr.ext x6
    replace bxlo := bxlo.ext x6
    replace bxhi := bxhi.ext x6
    have bxnu : BK w6 (w5.heap.size) 25 #[.bool si, .slice Ai Li ci] := by rw [hw]; have h5 := (BK.ext (BK.new w5 #[.bool si, .slice Ai Li ci] 25) (Ext.alloc _ (.cells #[.bool sj, .slice Aj Lj cj] 25))); simpa only [World.size_alloc] using h5
    have bxde : BK w6 (w5.heap.size + 1) 25 #[.bool sj, .slice Aj Lj cj] := by rw [hw]; have h5 := (BK.new (w5.alloc (.cells #[.bool si, .slice Ai Li ci] 25)) #[.bool sj, .slice Aj Lj cj] 25); simpa only [World.size_alloc] using h5
    have szw6 : w6.heap.size = w5.heap.size + 1 + 1 := by rw [hw]; simp only [World.size_alloc]
    clear hw
    have kr_0 := bxr.c 0 (.bool false) rfl
    have kr_1 := bxr.c 1 (.slice none 0 0) rfl
    have kr_2 := bxr.c 2 (.slice none 0 0) rfl
    have klo_0 := bxlo.c 0 (.bool su) rfl
    have klo_1 := bxlo.c 1 (.slice Au Lu cu) rfl
    have klo_2 := bxlo.c 2 (.slice Bu Mu du) rfl
    have khi_0 := bxhi.c 0 (.bool sv) rfl
    have khi_1 := bxhi.c 1 (.slice Av Lv cv) rfl
    have khi_2 := bxhi.c 2 (.slice Bv Mv dv) rfl
    have knu_0 := bxnu.c 0 (.bool si) rfl
    have knu_1 := bxnu.c 1 (.slice Ai Li ci) rfl
    have kde_0 := bxde.c 0 (.bool sj) rfl
    have kde_1 := bxde.c 1 (.slice Aj Lj cj) rfl
    go_wp2_with fail
    clear kr_0 kr_1 kr_2 klo_0 klo_1 klo_2 khi_0 khi_1 khi_2 knu_0 knu_1 kde_0 kde_1
    refine (rsign_e (HU.out.1.rv.ext (by with_reducible repeat' first | exact Ext.refl _ | assumption | apply Ext.alloc_r | apply Ext.drew_r | apply Ext.drewN_r | refine Ext.trans ?_ ‹Ext _ _›)) HE1.out).mono ?_
    rintro e w7 ⟨rfl, x7⟩
    have szw7 : w6.heap.size ≤ w7.heap.size := x7.size
    replace bxr := bxr.ext x7
    replace bxlo := bxlo.ext x7
    replace bxhi := bxhi.ext x7
    replace bxnu := bxnu.ext x7
    replace bxde := bxde.ext x7
    have kr_0 := bxr.c 0 (.bool false) rfl
    have kr_1 := bxr.c 1 (.slice none 0 0) rfl
    have kr_2 := bxr.c 2 (.slice none 0 0) rfl
    have klo_0 := bxlo.c 0 (.bool su) rfl
    have klo_1 := bxlo.c 1 (.slice Au Lu cu) rfl
    have klo_2 := bxlo.c 2 (.slice Bu Mu du) rfl
    have khi_0 := bxhi.c 0 (.bool sv) rfl
    have khi_1 := bxhi.c 1 (.slice Av Lv cv) rfl
    have khi_2 := bxhi.c 2 (.slice Bv Mv dv) rfl
    have knu_0 := bxnu.c 0 (.bool si) rfl
    have knu_1 := bxnu.c 1 (.slice Ai Li ci) rfl
    have kde_0 := bxde.c 0 (.bool sj) rfl
    have kde_1 := bxde.c 1 (.slice Aj Lj cj) rfl
    go_wp2_with fail
    clear kr_0 kr_1 kr_2 klo_0 klo_1 klo_2 khi_0 khi_1 khi_2 knu_0 knu_1 kde_0 kde_1
    refine (rsign_e (HU.out.2.rv.ext (by with_reducible repeat' first | exact Ext.refl _ | assumption | apply Ext.alloc_r | apply Ext.drew_r | apply Ext.drewN_r | refine Ext.trans ?_ ‹Ext _ _›)) HE2.out).mono ?_
    rintro e w8 ⟨rfl, x8⟩
    have szw8 : w7.heap.size ≤ w8.heap.size := x8.size
    replace bxr := bxr.ext x8
    replace bxlo := bxlo.ext x8
    replace bxhi := bxhi.ext x8
    replace bxnu := bxnu.ext x8
    replace bxde := bxde.ext x8
    have kr_0 := bxr.c 0 (.bool false) rfl
    have kr_1 := bxr.c 1 (.slice none 0 0) rfl
    have kr_2 := bxr.c 2 (.slice none 0 0) rfl
    have klo_0 := bxlo.c 0 (.bool su) rfl
    have klo_1 := bxlo.c 1 (.slice Au Lu cu) rfl
    have klo_2 := bxlo.c 2 (.slice Bu Mu du) rfl
    have khi_0 := bxhi.c 0 (.bool sv) rfl
    have khi_1 := bxhi.c 1 (.slice Av Lv cv) rfl
    have khi_2 := bxhi.c 2 (.slice Bv Mv dv) rfl
    have knu_0 := bxnu.c 0 (.bool si) rfl
    have knu_1 := bxnu.c 1 (.slice Ai Li ci) rfl
    have kde_0 := bxde.c 0 (.bool sj) rfl
    have kde_1 := bxde.c 1 (.slice Aj Lj cj) rfl
    go_wp2_with fail
    clear kr_0 kr_1 kr_2 klo_0 klo_1 klo_2 khi_0 khi_1 khi_2 knu_0 knu_1 kde_0 kde_1
    refine (rsign_e (HU.out.1.rv.ext (by with_reducible repeat' first | exact Ext.refl _ | assumption | apply Ext.alloc_r | apply Ext.drew_r | apply Ext.drewN_r | refine Ext.trans ?_ ‹Ext _ _›)) HE1.out).mono ?_
    rintro e w9 ⟨rfl, x9⟩
    have szw9 : w8.heap.size ≤ w9.heap.size := x9.size
    replace bxr := bxr.ext x9
    replace bxlo := bxlo.ext x9
    replace bxhi := bxhi.ext x9
    replace bxnu := bxnu.ext x9
    replace bxde := bxde.ext x9
    have klo_0 := bxlo.c 0 (.bool su) rfl
    have flo_0 := bxlo.f 0
    have klo_1 := bxlo.c 1 (.slice Au Lu cu) rfl
    have flo_1 := bxlo.f 1
    have klo_2 := bxlo.c 2 (.slice Bu Mu du) rfl
    have flo_2 := bxlo.f 2
    have khi_0 := bxhi.c 0 (.bool sv) rfl
    have fhi_0 := bxhi.f 0
    have khi_1 := bxhi.c 1 (.slice Av Lv cv) rfl
    have fhi_1 := bxhi.f 1
    have khi_2 := bxhi.c 2 (.slice Bv Mv dv) rfl
    have fhi_2 := bxhi.f 2
    go_wp2_with fail
    have HKS : Hid (∀ w', Ext w9 w' → (w'.cell? ⟨b6, 0, none⟩ = some (.bool su) ∧ w'.cell? ⟨b6, 1, none⟩ = some (.slice Au Lu cu) ∧ w'.cell? ⟨b6, 2, none⟩ = some (.slice Bu Mu du) ∧ w'.cell? ⟨b7, 0, none⟩ = some (.bool sv) ∧ w'.cell? ⟨b7, 1, none⟩ = some (.slice Av Lv cv) ∧ w'.cell? ⟨b7, 2, none⟩ = some (.slice Bv Mv dv))) := fun w' hk => ⟨hk.cell klo_0, hk.cell klo_1, hk.cell klo_2, hk.cell khi_0, hk.cell khi_1, hk.cell khi_2⟩
    refine wp_region_tail 4 (fun w' => w'.cell? ⟨b6, 0, none⟩ = some (.bool su) ∧ w'.cell? ⟨b6, 1, none⟩ = some (.slice Au Lu cu) ∧ w'.cell? ⟨b6, 2, none⟩ = some (.slice Bu Mu du) ∧ w'.cell? ⟨b7, 0, none⟩ = some (.bool sv) ∧ w'.cell? ⟨b7, 1, none⟩ = some (.slice Av Lv cv) ∧ w'.cell? ⟨b7, 2, none⟩ = some (.slice Bv Mv dv)) (by kernel_rfl) ?_ (fun hHeld inv => ?_)
    · (with_reducible refine HKS.out _ ?_; (with_reducible repeat' first | exact Ext.refl _ | assumption | apply Ext.alloc_r | apply Ext.drew_r | apply Ext.drewN_r | refine Ext.trans ?_ ‹Ext _ _›))
    refine wpAnyT_take (i := 0) (v := ?tv0) rfl (by kernel_rfl) (by kernel_rfl) (by kernel_rfl) (by kernel_rfl) inv (fun _ _ _ h => h) (Or.inl ⟨by rfl, ?th0⟩) (by assumption) (fun inv => ?tr0)
    case th0 =>
      intro w5 hSw
      (try dsimp only at hSw)
      go_simp
      (try with_reducible rfl)
    try simp only [Act.put, List.setIfInBounds_toArray]
    refine wpAnyT_take (i := 2) (v := ?tv2) rfl (by kernel_rfl) (by kernel_rfl) (by kernel_rfl) (by kernel_rfl) inv (fun _ _ _ h => h) (Or.inl ⟨by rfl, ?th2⟩) (by assumption) (fun inv => ?tr2)
    case th2 =>
      intro w5 hSw
      (try dsimp only at hSw)
      go_simp
      (try with_reducible rfl)
    try simp only [Act.put]
    refine wpAnyT_head (i := 1) (by kernel_rfl) rfl (by kernel_rfl) inv (fun K hK => ?_)
    clear inv
    go_simp
    (go_at_call_of 45 (#[Value.agg #[Value.bool sv, Value.slice Av Lv cv, Value.slice Bv Mv dv]]); refine (rneg_r (HU.out.2.rv.ext (by with_reducible repeat' first | exact Ext.refl _ | assumption | apply Ext.alloc_r | apply Ext.drew_r | apply Ext.drewN_r | refine Ext.trans ?_ ‹Ext _ _›)) (by omega)).mono ?_; rintro e w10 ⟨sx, Ax, cx, Lx, Bx, dx, Mx, rfl, x, x10⟩; have ylx : Ext w9 w10 := (by with_reducible repeat' first | exact Ext.refl _ | assumption | apply Ext.alloc_r | apply Ext.drew_r | apply Ext.drewN_r | refine Ext.trans ?_ ‹Ext _ _›); have klox_0 := (bxlo.ext ylx).c 0 (.bool su) rfl; have flox_0 := (bxlo.ext ylx).f 0; have klox_1 := (bxlo.ext ylx).c 1 (.slice Au Lu cu) rfl; have flox_1 := (bxlo.ext ylx).f 1; have klox_2 := (bxlo.ext ylx).c 2 (.slice Bu Mu du) rfl; have flox_2 := (bxlo.ext ylx).f 2; have khix_0 := (bxhi.ext ylx).c 0 (.bool sv) rfl; have fhix_0 := (bxhi.ext ylx).f 0; have khix_1 := (bxhi.ext ylx).c 1 (.slice Av Lv cv) rfl; have fhix_1 := (bxhi.ext ylx).f 1; have khix_2 := (bxhi.ext ylx).c 2 (.slice Bv Mv dv) rfl; have fhix_2 := (bxhi.ext ylx).f 2; clear ylx)
    refine hK.out _ _ ?_ (fun hHeld inv => ?_)
    · clear hK; (try dsimp only)
      (with_reducible refine HKS.out _ ?_; (with_reducible repeat' first | exact Ext.refl _ | assumption | apply Ext.alloc_r | apply Ext.drew_r | apply Ext.drewN_r | refine Ext.trans ?_ ‹Ext _ _›))
    clear hK K
    try simp only [Act.put, List.setIfInBounds_toArray, List.set_cons_zero, List.set_cons_succ]
    refine wpAnyT_head (i := 3) (by kernel_rfl) rfl (by kernel_rfl) inv (fun K hK => ?_)
    clear inv
    go_simp
    (go_at_call_of 45 (#[Value.agg #[Value.bool su, Value.slice Au Lu cu, Value.slice Bu Mu du]]); refine (rneg_r (HU.out.1.rv.ext (by with_reducible repeat' first | exact Ext.refl _ | assumption | apply Ext.alloc_r | apply Ext.drew_r | apply Ext.drewN_r | refine Ext.trans ?_ ‹Ext _ _›)) (by omega)).mono ?_; rintro e w11 ⟨sy, Ay, cy, Ly, By, dy, My, rfl, y, x11⟩; have yly : Ext w9 w11 := (by with_reducible repeat' first | exact Ext.refl _ | assumption | apply Ext.alloc_r | apply Ext.drew_r | apply Ext.drewN_r | refine Ext.trans ?_ ‹Ext _ _›); have kloy_0 := (bxlo.ext yly).c 0 (.bool su) rfl; have floy_0 := (bxlo.ext yly).f 0; have kloy_1 := (bxlo.ext yly).c 1 (.slice Au Lu cu) rfl; have floy_1 := (bxlo.ext yly).f 1; have kloy_2 := (bxlo.ext yly).c 2 (.slice Bu Mu du) rfl; have floy_2 := (bxlo.ext yly).f 2; have khiy_0 := (bxhi.ext yly).c 0 (.bool sv) rfl; have fhiy_0 := (bxhi.ext yly).f 0; have khiy_1 := (bxhi.ext yly).c 1 (.slice Av Lv cv) rfl; have fhiy_1 := (bxhi.ext yly).f 1; have khiy_2 := (bxhi.ext yly).c 2 (.slice Bv Mv dv) rfl; have fhiy_2 := (bxhi.ext yly).f 2; clear yly)
    refine hK.out _ _ ?_ (fun hHeld inv => ?_)
    · clear hK; (try dsimp only)
      (with_reducible refine HKS.out _ ?_; (with_reducible repeat' first | exact Ext.refl _ | assumption | apply Ext.alloc_r | apply Ext.drew_r | apply Ext.drewN_r | refine Ext.trans ?_ ‹Ext _ _›))
    clear hK K
    try simp only [Act.put, List.setIfInBounds_toArray, List.set_cons_zero, List.set_cons_succ]
    refine wpAnyT_tail (i := 4) (by kernel_rfl) rfl (by kernel_rfl) (fun K hK => ?_)
    (try clear inv)
    go_simp
    refine hK.out _ _ ?_
    clear hK K
    try simp only [Act.put, List.setIfInBounds_toArray, List.set_cons_zero, List.set_cons_succ]
    refine wpAnyT_tail (i := 5) (by kernel_rfl) rfl (by kernel_rfl) (fun K hK => ?_)
    (try clear inv)
    go_simp
    refine hK.out _ _ ?_
    clear hK K
    try simp only [Act.put, List.setIfInBounds_toArray, List.set_cons_zero, List.set_cons_succ]
    refine wpAnyT_done (by kernel_rfl) ?_ _
    clear HKS
    clear klo_0 flo_0 klo_1 flo_1 klo_2 flo_2 khi_0 fhi_0 khi_1 fhi_1 khi_2 fhi_2
    clear klox_0 flox_0 klox_1 flox_1 klox_2 flox_2 khix_0 fhix_0 khix_1 fhix_1 khix_2 fhix_2 kloy_0 floy_0 kloy_1 floy_1 kloy_2 floy_2 khiy_0 fhiy_0 khiy_1 fhiy_1 khiy_2 fhiy_2
    have xhw11 : Ext w9 w11 := (by with_reducible repeat' first | exact Ext.refl _ | assumption | apply Ext.alloc_r | apply Ext.drew_r | apply Ext.drewN_r | refine Ext.trans ?_ ‹Ext _ _›)
    have szw11 : w9.heap.size ≤ w11.heap.size := xhw11.size
    have szw10 : w9.heap.size ≤ w10.heap.size := (show Ext w9 w10 from (by with_reducible repeat' first | exact Ext.refl _ | assumption | apply Ext.alloc_r | apply Ext.drew_r | apply Ext.drewN_r | refine Ext.trans ?_ ‹Ext _ _›)).size
    replace bxr := bxr.ext xhw11
    replace bxlo := bxlo.ext xhw11
    replace bxhi := bxhi.ext xhw11
    replace bxnu := bxnu.ext xhw11
    replace bxde := bxde.ext xhw11
    have x2 := x.mono (show w.heap.size ≤ _ by first | omega | (simp only [World.size_drew]; omega))
    have y2 := y.mono (show w.heap.size ≤ _ by first | omega | (simp only [World.size_drew]; omega))
    clear x y HU
    obtain ⟨w12, hw⟩ : ∃ z : World, z = ((((((w11.setCell ⟨b6, 0, none⟩ (.bool sx)).setCell ⟨b6, 1, none⟩ (.slice Ax Lx cx)).setCell ⟨b6, 2, none⟩ (.slice Bx Mx dx)).setCell ⟨b7, 0, none⟩ (.bool sy)).setCell ⟨b7, 1, none⟩ (.slice Ay Ly cy)).setCell ⟨b7, 2, none⟩ (.slice By My dy)) := ⟨_, rfl⟩
    rw [← hw]
    have kw12 : Kept w11 w12 := by rw [hw]; exact (Kept.set_ (Kept.set_ (Kept.set_ (Kept.set_ (Kept.set_ (Kept.set_ (Kept.refl _) bxlo.isBox plain_rat) (IsBox.set_ bxlo.isBox) plain_rat) (IsBox.set_ (IsBox.set_ bxlo.isBox)) plain_rat) (IsBox.set_ (IsBox.set_ (IsBox.set_ bxhi.isBox))) plain_rat) (IsBox.set_ (IsBox.set_ (IsBox.set_ (IsBox.set_ bxhi.isBox)))) plain_rat) (IsBox.set_ (IsBox.set_ (IsBox.set_ (IsBox.set_ (IsBox.set_ bxhi.isBox))))) plain_rat)
    have nbr : BK w12 (w.heap.size + 1 + 1) 27 #[.bool false, .slice none 0 0, .slice none 0 0] := by rw [hw]; exact (BK.far (BK.far (BK.far (BK.far (BK.far (BK.far bxr (show w.heap.size + 1 + 1 ≠ b6 by omega) 0 _) (show w.heap.size + 1 + 1 ≠ b6 by omega) 1 _) (show w.heap.size + 1 + 1 ≠ b6 by omega) 2 _) (show w.heap.size + 1 + 1 ≠ b7 by omega) 0 _) (show w.heap.size + 1 + 1 ≠ b7 by omega) 1 _) (show w.heap.size + 1 + 1 ≠ b7 by omega) 2 _)
    have nblo : BK w12 (b6) 27 #[.bool sx, .slice Ax Lx cx, .slice Bx Mx dx] := by rw [hw]; exact (BK.far (BK.far (BK.far (BK.set (i := 2) (u := .slice Bx Mx dx) (vs' := #[.bool sx, .slice Ax Lx cx, .slice Bx Mx dx]) (BK.set (i := 1) (u := .slice Ax Lx cx) (vs' := #[.bool sx, .slice Ax Lx cx, .slice Bu Mu du]) (BK.set (i := 0) (u := .bool sx) (vs' := #[.bool sx, .slice Au Lu cu, .slice Bu Mu du]) bxlo rfl) rfl) rfl) (show b6 ≠ b7 by omega) 0 _) (show b6 ≠ b7 by omega) 1 _) (show b6 ≠ b7 by omega) 2 _)
    have nbhi : BK w12 (b7) 27 #[.bool sy, .slice Ay Ly cy, .slice By My dy] := by rw [hw]; exact (BK.set (i := 2) (u := .slice By My dy) (vs' := #[.bool sy, .slice Ay Ly cy, .slice By My dy]) (BK.set (i := 1) (u := .slice Ay Ly cy) (vs' := #[.bool sy, .slice Ay Ly cy, .slice Bv Mv dv]) (BK.set (i := 0) (u := .bool sy) (vs' := #[.bool sy, .slice Av Lv cv, .slice Bv Mv dv]) (BK.far (BK.far (BK.far bxhi (show b7 ≠ b6 by omega) 0 _) (show b7 ≠ b6 by omega) 1 _) (show b7 ≠ b6 by omega) 2 _) rfl) rfl) rfl)
    have nbnu : BK w12 (w5.heap.size) 25 #[.bool si, .slice Ai Li ci] := by rw [hw]; exact (BK.far (BK.far (BK.far (BK.far (BK.far (BK.far bxnu (show w5.heap.size ≠ b6 by omega) 0 _) (show w5.heap.size ≠ b6 by omega) 1 _) (show w5.heap.size ≠ b6 by omega) 2 _) (show w5.heap.size ≠ b7 by omega) 0 _) (show w5.heap.size ≠ b7 by omega) 1 _) (show w5.heap.size ≠ b7 by omega) 2 _)
    have nbde : BK w12 (w5.heap.size + 1) 25 #[.bool sj, .slice Aj Lj cj] := by rw [hw]; exact (BK.far (BK.far (BK.far (BK.far (BK.far (BK.far bxde (show w5.heap.size + 1 ≠ b6 by omega) 0 _) (show w5.heap.size + 1 ≠ b6 by omega) 1 _) (show w5.heap.size + 1 ≠ b6 by omega) 2 _) (show w5.heap.size + 1 ≠ b7 by omega) 0 _) (show w5.heap.size + 1 ≠ b7 by omega) 1 _) (show w5.heap.size + 1 ≠ b7 by omega) 2 _)
    have x12 : Ext w w12 := by rw [hw]; have hxp : Ext w w11 := (by with_reducible repeat' first | exact Ext.refl _ | assumption | apply Ext.alloc_r | apply Ext.drew_r | apply Ext.drewN_r | refine Ext.trans ?_ ‹Ext _ _›); exact (Ext.set_ (Ext.set_ (Ext.set_ (Ext.set_ (Ext.set_ (Ext.set_ hxp (show _ ≤ b6 by omega)) (show _ ≤ b6 by omega)) (show _ ≤ b6 by omega)) (show _ ≤ b7 by omega)) (show _ ≤ b7 by omega)) (show _ ≤ b7 by omega))
    clear bxr
    clear bxlo
    clear bxhi
    clear bxnu
    clear bxde
    have bxr := nbr
    clear nbr
    have bxlo := nblo
    clear nblo
    have bxhi := nbhi
    clear nbhi
    have bxnu := nbnu
    clear nbnu
    have bxde := nbde
    clear nbde
    have szw12 : w12.heap.size = w11.heap.size := by rw [hw]; simp
    replace x2 := (x2.ext (by with_reducible repeat' first | exact Ext.refl _ | assumption | apply Ext.alloc_r | apply Ext.drew_r | apply Ext.drewN_r | refine Ext.trans ?_ ‹Ext _ _›)).kept kw12
    replace y2 := (y2.ext (by with_reducible repeat' first | exact Ext.refl _ | assumption | apply Ext.alloc_r | apply Ext.drew_r | apply Ext.drewN_r | refine Ext.trans ?_ ‹Ext _ _›)).kept kw12
    clear hw kw12
    have HU := Lib.hid (And.intro x2 y2)
    clear x2 y2
    have kr_0 := bxr.c 0 (.bool false) rfl
    have kr_1 := bxr.c 1 (.slice none 0 0) rfl
    have kr_2 := bxr.c 2 (.slice none 0 0) rfl
    have klo_0 := bxlo.c 0 (.bool sx) rfl
    have klo_1 := bxlo.c 1 (.slice Ax Lx cx) rfl
    have klo_2 := bxlo.c 2 (.slice Bx Mx dx) rfl
    have khi_0 := bxhi.c 0 (.bool sy) rfl
    have khi_1 := bxhi.c 1 (.slice Ay Ly cy) rfl
    have khi_2 := bxhi.c 2 (.slice By My dy) rfl
    have knu_0 := bxnu.c 0 (.bool si) rfl
    have knu_1 := bxnu.c 1 (.slice Ai Li ci) rfl
    have kde_0 := bxde.c 0 (.bool sj) rfl
    have kde_1 := bxde.c 1 (.slice Aj Lj cj) rfl
    go_wp2_with fail
    clear kr_0 kr_1 kr_2 klo_0 klo_1 klo_2 khi_0 khi_1 khi_2 knu_0 knu_1 kde_0 kde_1
    refine (HBT.out _ (HU.out.1.num.zv.ext (by with_reducible repeat' first | exact Ext.refl _ | assumption | apply Ext.alloc_r | apply Ext.drew_r | apply Ext.drewN_r | refine Ext.trans ?_ ‹Ext _ _›)) (HU.out.1.dz.ext (by with_reducible repeat' first | exact Ext.refl _ | assumption | apply Ext.alloc_r | apply Ext.drew_r | apply Ext.drewN_r | refine Ext.trans ?_ ‹Ext _ _›)) (HU.out.2.num.zv.ext (by with_reducible repeat' first | exact Ext.refl _ | assumption | apply Ext.alloc_r | apply Ext.drew_r | apply Ext.drewN_r | refine Ext.trans ?_ ‹Ext _ _›)) (HU.out.2.dz.ext (by with_reducible repeat' first | exact Ext.refl _ | assumption | apply Ext.alloc_r | apply Ext.drew_r | apply Ext.drewN_r | refine Ext.trans ?_ ‹Ext _ _›))).mono ?_
    rintro e w13 ⟨sb, Ab, cb, Lb, tb, Bb, db, Mb, rfl, b1, b2, x13⟩
    have szw13 : w12.heap.size ≤ w13.heap.size := x13.size
    replace bxr := bxr.ext x13
    replace bxlo := bxlo.ext x13
    replace bxhi := bxhi.ext x13
    replace bxnu := bxnu.ext x13
    replace bxde := bxde.ext x13
    have HB := Lib.hid (And.intro (b1.mono (show w.heap.size ≤ _ by omega)) (b2.mono (show w.heap.size ≤ _ by omega)))
    clear b1 b2 HBT
    have kr_0 := bxr.c 0 (.bool false) rfl
    have kr_1 := bxr.c 1 (.slice none 0 0) rfl
    have kr_2 := bxr.c 2 (.slice none 0 0) rfl
    have klo_0 := bxlo.c 0 (.bool sx) rfl
    have klo_1 := bxlo.c 1 (.slice Ax Lx cx) rfl
    have klo_2 := bxlo.c 2 (.slice Bx Mx dx) rfl
    have khi_0 := bxhi.c 0 (.bool sy) rfl
    have khi_1 := bxhi.c 1 (.slice Ay Ly cy) rfl
    have khi_2 := bxhi.c 2 (.slice By My dy) rfl
    have knu_0 := bxnu.c 0 (.bool si) rfl
    have fnu_0 := bxnu.f 0
    have knu_1 := bxnu.c 1 (.slice Ai Li ci) rfl
    have fnu_1 := bxnu.f 1
    have kde_0 := bxde.c 0 (.bool sj) rfl
    have fde_0 := bxde.f 0
    have kde_1 := bxde.c 1 (.slice Aj Lj cj) rfl
    have fde_1 := bxde.f 1
    go_wp2_with fail
    clear kr_0 kr_1 kr_2 klo_0 klo_1 klo_2 khi_0 khi_1 khi_2 knu_0 fnu_0 knu_1 fnu_1 kde_0 fde_0 kde_1 fde_1
    have y1 := HB.out.1
    have y2 := HB.out.2
    clear HB HI HJ
    obtain ⟨w14, hw⟩ : ∃ z : World, z = ((((w13.setCell ⟨w5.heap.size, 0, none⟩ (.bool sb)).setCell ⟨w5.heap.size, 1, none⟩ (.slice Ab Lb cb)).setCell ⟨w5.heap.size + 1, 0, none⟩ (.bool tb)).setCell ⟨w5.heap.size + 1, 1, none⟩ (.slice Bb Mb db)) := ⟨_, rfl⟩
    rw [← hw]
    have kw14 : Kept w13 w14 := by rw [hw]; exact (Kept.set_ (Kept.set_ (Kept.set_ (Kept.set_ (Kept.refl _) bxnu.isBox plain_int) (IsBox.set_ bxnu.isBox) plain_int) (IsBox.set_ (IsBox.set_ bxde.isBox)) plain_int) (IsBox.set_ (IsBox.set_ (IsBox.set_ bxde.isBox))) plain_int)
    have nbr : BK w14 (w.heap.size + 1 + 1) 27 #[.bool false, .slice none 0 0, .slice none 0 0] := by rw [hw]; exact (BK.far (BK.far (BK.far (BK.far bxr (show w.heap.size + 1 + 1 ≠ w5.heap.size by omega) 0 _) (show w.heap.size + 1 + 1 ≠ w5.heap.size by omega) 1 _) (show w.heap.size + 1 + 1 ≠ w5.heap.size + 1 by omega) 0 _) (show w.heap.size + 1 + 1 ≠ w5.heap.size + 1 by omega) 1 _)
    have nblo : BK w14 (b6) 27 #[.bool sx, .slice Ax Lx cx, .slice Bx Mx dx] := by rw [hw]; exact (BK.far (BK.far (BK.far (BK.far bxlo (show b6 ≠ w5.heap.size by omega) 0 _) (show b6 ≠ w5.heap.size by omega) 1 _) (show b6 ≠ w5.heap.size + 1 by omega) 0 _) (show b6 ≠ w5.heap.size + 1 by omega) 1 _)
    have nbhi : BK w14 (b7) 27 #[.bool sy, .slice Ay Ly cy, .slice By My dy] := by rw [hw]; exact (BK.far (BK.far (BK.far (BK.far bxhi (show b7 ≠ w5.heap.size by omega) 0 _) (show b7 ≠ w5.heap.size by omega) 1 _) (show b7 ≠ w5.heap.size + 1 by omega) 0 _) (show b7 ≠ w5.heap.size + 1 by omega) 1 _)
    have nbnu : BK w14 (w5.heap.size) 25 #[.bool sb, .slice Ab Lb cb] := by rw [hw]; exact (BK.far (BK.far (BK.set (i := 1) (u := .slice Ab Lb cb) (vs' := #[.bool sb, .slice Ab Lb cb]) (BK.set (i := 0) (u := .bool sb) (vs' := #[.bool sb, .slice Ai Li ci]) bxnu rfl) rfl) (show w5.heap.size ≠ w5.heap.size + 1 by omega) 0 _) (show w5.heap.size ≠ w5.heap.size + 1 by omega) 1 _)
    have nbde : BK w14 (w5.heap.size + 1) 25 #[.bool tb, .slice Bb Mb db] := by rw [hw]; exact (BK.set (i := 1) (u := .slice Bb Mb db) (vs' := #[.bool tb, .slice Bb Mb db]) (BK.set (i := 0) (u := .bool tb) (vs' := #[.bool tb, .slice Aj Lj cj]) (BK.far (BK.far bxde (show w5.heap.size + 1 ≠ w5.heap.size by omega) 0 _) (show w5.heap.size + 1 ≠ w5.heap.size by omega) 1 _) rfl) rfl)
    have x14 : Ext w w14 := by rw [hw]; have hxp : Ext w w13 := (by with_reducible repeat' first | exact Ext.refl _ | assumption | apply Ext.alloc_r | apply Ext.drew_r | apply Ext.drewN_r | refine Ext.trans ?_ ‹Ext _ _›); exact (Ext.set_ (Ext.set_ (Ext.set_ (Ext.set_ hxp (show _ ≤ w5.heap.size by omega)) (show _ ≤ w5.heap.size by omega)) (show _ ≤ w5.heap.size + 1 by omega)) (show _ ≤ w5.heap.size + 1 by omega))
    clear bxr
    clear bxlo
    clear bxhi
    clear bxnu
    clear bxde
    have bxr := nbr
    clear nbr
    have bxlo := nblo
    clear nblo
    have bxhi := nbhi
    clear nbhi
    have bxnu := nbnu
    clear nbnu
    have bxde := nbde
    clear nbde
    have szw14 : w14.heap.size = w13.heap.size := by rw [hw]; simp
    replace y1 := (y1.ext (by with_reducible repeat' first | exact Ext.refl _ | assumption | apply Ext.alloc_r | apply Ext.drew_r | apply Ext.drewN_r | refine Ext.trans ?_ ‹Ext _ _›)).kept kw14
    replace y2 := (y2.ext (by with_reducible repeat' first | exact Ext.refl _ | assumption | apply Ext.alloc_r | apply Ext.drew_r | apply Ext.drewN_r | refine Ext.trans ?_ ‹Ext _ _›)).kept kw14
    clear hw kw14
    have HN := Lib.hid (show ZV w14 true Ab cb Lb q.num from ⟨by rw [← Int.natAbs_neg, ← Rat.neg_num]; exact y1.zv.nv, fun _ => by have h5 := HNN.out; rw [Rat.neg_num] at h5; omega, fun h => by cases h⟩)
    have HY2 := Lib.hid y2
    clear y1 y2
    have hd0 : dl q.num.natAbs ≤ 17592186044416 := by have h5 := HBD.out.1; omega
    have kr_0 := bxr.c 0 (.bool false) rfl
    have kr_1 := bxr.c 1 (.slice none 0 0) rfl
    have kr_2 := bxr.c 2 (.slice none 0 0) rfl
    have klo_0 := bxlo.c 0 (.bool sx) rfl
    have klo_1 := bxlo.c 1 (.slice Ax Lx cx) rfl
    have klo_2 := bxlo.c 2 (.slice Bx Mx dx) rfl
    have khi_0 := bxhi.c 0 (.bool sy) rfl
    have khi_1 := bxhi.c 1 (.slice Ay Ly cy) rfl
    have khi_2 := bxhi.c 2 (.slice By My dy) rfl
    have knu_0 := bxnu.c 0 (.bool sb) rfl
    have knu_1 := bxnu.c 1 (.slice Ab Lb cb) rfl
    have kde_0 := bxde.c 0 (.bool tb) rfl
    have kde_1 := bxde.c 1 (.slice Bb Mb db) rfl
    go_wp2_with fail
    clear kr_0 kr_1 kr_2 klo_0 klo_1 klo_2 khi_0 khi_1 khi_2 knu_0 knu_1 kde_0 kde_1
    go_step3
    go_wp2_with fail
    have kr_0 := bxr.c 0 (.bool false) rfl
    have fr_0 := bxr.f 0
    have kr_1 := bxr.c 1 (.slice none 0 0) rfl
    have fr_1 := bxr.f 1
    have kr_2 := bxr.c 2 (.slice none 0 0) rfl
    have fr_2 := bxr.f 2
    have klo_0 := bxlo.c 0 (.bool sx) rfl
    have klo_1 := bxlo.c 1 (.slice Ax Lx cx) rfl
    have klo_2 := bxlo.c 2 (.slice Bx Mx dx) rfl
    have khi_0 := bxhi.c 0 (.bool sy) rfl
    have khi_1 := bxhi.c 1 (.slice Ay Ly cy) rfl
    have khi_2 := bxhi.c 2 (.slice By My dy) rfl
    have knu_0 := bxnu.c 0 (.bool sb) rfl
    have knu_1 := bxnu.c 1 (.slice Ab Lb cb) rfl
    have kde_0 := bxde.c 0 (.bool tb) rfl
    have kde_1 := bxde.c 1 (.slice Bb Mb db) rfl
    go_wp2_with fail
    have HK : Hid (∀ w', Ext w14 w' → (w'.cell? ⟨w5.heap.size, 0, none⟩ = some (.bool sb) ∧ w'.cell? ⟨w5.heap.size, 1, none⟩ = some (.slice Ab Lb cb) ∧ w'.cell? ⟨w5.heap.size + 1, 0, none⟩ = some (.bool tb) ∧ w'.cell? ⟨w5.heap.size + 1, 1, none⟩ = some (.slice Bb Mb db))) := fun w' hk => ⟨hk.cell knu_0, hk.cell knu_1, hk.cell kde_0, hk.cell kde_1⟩
    have nernu : w.heap.size + 1 + 1 ≠ w5.heap.size := by omega
    have nerde : w.heap.size + 1 + 1 ≠ w5.heap.size + 1 := by omega
    have HSr : Hid (∀ (w' : World) (i : Nat) (u : Value), (w'.cell? ⟨w5.heap.size, 0, none⟩ = some (.bool sb) ∧ w'.cell? ⟨w5.heap.size, 1, none⟩ = some (.slice Ab Lb cb) ∧ w'.cell? ⟨w5.heap.size + 1, 0, none⟩ = some (.bool tb) ∧ w'.cell? ⟨w5.heap.size + 1, 1, none⟩ = some (.slice Bb Mb db)) → ((fun (w' : World) => (w'.cell? ⟨w5.heap.size, 0, none⟩ = some (.bool sb) ∧ w'.cell? ⟨w5.heap.size, 1, none⟩ = some (.slice Ab Lb cb) ∧ w'.cell? ⟨w5.heap.size + 1, 0, none⟩ = some (.bool tb) ∧ w'.cell? ⟨w5.heap.size + 1, 1, none⟩ = some (.slice Bb Mb db))) (w'.setCell ⟨w.heap.size + 1 + 1, i, none⟩ u))) := fun w' i u hs => ⟨cell_far nernu hs.1, cell_far nernu hs.2.1, cell_far nerde hs.2.2.1, cell_far nerde hs.2.2.2⟩
    go_region_held3 (fun w' => w'.cell? ⟨w5.heap.size, 0, none⟩ = some (.bool sb) ∧ w'.cell? ⟨w5.heap.size, 1, none⟩ = some (.slice Ab Lb cb) ∧ w'.cell? ⟨w5.heap.size + 1, 0, none⟩ = some (.bool tb) ∧ w'.cell? ⟨w5.heap.size + 1, 1, none⟩ = some (.slice Bb Mb db))
      (((repeat (first | (with_reducible refine HSr.out _ _ _ ?_))); (with_reducible refine HK.out _ ?_; (with_reducible repeat' first | exact Ext.refl _ | assumption | apply Ext.alloc_r | apply Ext.drew_r | apply Ext.drewN_r | refine Ext.trans ?_ ‹Ext _ _›))))
      (first
        | (go_at_call 88; refine (from_z (HN.out.ext (by with_reducible repeat' first | exact Ext.refl _ | assumption | apply Ext.alloc_r | apply Ext.drew_r | apply Ext.drewN_r | refine Ext.trans ?_ ‹Ext _ _›)) hd0).mono ?_; rintro e w15 ⟨sz, Az, cz, Lz, rfl, z, x15⟩; have yl : Ext w14 w15 := (by with_reducible repeat' first | exact Ext.refl _ | assumption | apply Ext.alloc_r | apply Ext.drew_r | apply Ext.drewN_r | refine Ext.trans ?_ ‹Ext _ _›); have cr_0 := (bxr.ext yl).c 0 (.bool false) rfl; have gr_0 := (bxr.ext yl).f 0; have cr_1 := (bxr.ext yl).c 1 (.slice none 0 0) rfl; have gr_1 := (bxr.ext yl).f 1; have cr_2 := (bxr.ext yl).c 2 (.slice none 0 0) rfl; have gr_2 := (bxr.ext yl).f 2))
    clear kr_0 fr_0 kr_1 fr_1 kr_2 fr_2 klo_0 klo_1 klo_2 khi_0 khi_1 khi_2 knu_0 knu_1 kde_0 kde_1
    clear HK HSr nernu nerde
    clear cr_0 gr_0
    clear cr_1 gr_1
    clear cr_2 gr_2
    clear yl
    have xhw15 : Ext w14 w15 := (by with_reducible repeat' first | exact Ext.refl _ | assumption | apply Ext.alloc_r | apply Ext.drew_r | apply Ext.drewN_r | refine Ext.trans ?_ ‹Ext _ _›)
    have szw15 : w14.heap.size ≤ w15.heap.size := xhw15.size
    replace bxr := bxr.ext xhw15
    replace bxlo := bxlo.ext xhw15
    replace bxhi := bxhi.ext xhw15
    replace bxnu := bxnu.ext xhw15
    replace bxde := bxde.ext xhw15
    have HZ := Lib.hid (z.mono (show w.heap.size ≤ _ by first | omega | (simp only [World.size_drew]; omega)))
    clear z
    have zz := HZ.out
    have zd := HY2.out
    clear HZ
    obtain ⟨w16, hw⟩ : ∃ z : World, z = (((w15.setCell ⟨w.heap.size + 1 + 1, 0, none⟩ (.bool sz)).setCell ⟨w.heap.size + 1 + 1, 1, none⟩ (.slice Az Lz cz)).setCell ⟨w.heap.size + 1 + 1, 2, none⟩ (.slice Bb Mb db)) := ⟨_, rfl⟩
    rw [← hw]
    have kw16 : Kept w15 w16 := by rw [hw]; exact (Kept.set_ (Kept.set_ (Kept.set_ (Kept.refl _) bxr.isBox plain_rat) (IsBox.set_ bxr.isBox) plain_rat) (IsBox.set_ (IsBox.set_ bxr.isBox)) plain_rat)
    have nbr : BK w16 (w.heap.size + 1 + 1) 27 #[.bool sz, .slice Az Lz cz, .slice Bb Mb db] := by rw [hw]; exact (BK.set (i := 2) (u := .slice Bb Mb db) (vs' := #[.bool sz, .slice Az Lz cz, .slice Bb Mb db]) (BK.set (i := 1) (u := .slice Az Lz cz) (vs' := #[.bool sz, .slice Az Lz cz, .slice none 0 0]) (BK.set (i := 0) (u := .bool sz) (vs' := #[.bool sz, .slice none 0 0, .slice none 0 0]) bxr rfl) rfl) rfl)
    have nblo : BK w16 (b6) 27 #[.bool sx, .slice Ax Lx cx, .slice Bx Mx dx] := by rw [hw]; exact (BK.far (BK.far (BK.far bxlo (show b6 ≠ w.heap.size + 1 + 1 by omega) 0 _) (show b6 ≠ w.heap.size + 1 + 1 by omega) 1 _) (show b6 ≠ w.heap.size + 1 + 1 by omega) 2 _)
    have nbhi : BK w16 (b7) 27 #[.bool sy, .slice Ay Ly cy, .slice By My dy] := by rw [hw]; exact (BK.far (BK.far (BK.far bxhi (show b7 ≠ w.heap.size + 1 + 1 by omega) 0 _) (show b7 ≠ w.heap.size + 1 + 1 by omega) 1 _) (show b7 ≠ w.heap.size + 1 + 1 by omega) 2 _)
    have nbnu : BK w16 (w5.heap.size) 25 #[.bool sb, .slice Ab Lb cb] := by rw [hw]; exact (BK.far (BK.far (BK.far bxnu (show w5.heap.size ≠ w.heap.size + 1 + 1 by omega) 0 _) (show w5.heap.size ≠ w.heap.size + 1 + 1 by omega) 1 _) (show w5.heap.size ≠ w.heap.size + 1 + 1 by omega) 2 _)
    have nbde : BK w16 (w5.heap.size + 1) 25 #[.bool tb, .slice Bb Mb db] := by rw [hw]; exact (BK.far (BK.far (BK.far bxde (show w5.heap.size + 1 ≠ w.heap.size + 1 + 1 by omega) 0 _) (show w5.heap.size + 1 ≠ w.heap.size + 1 + 1 by omega) 1 _) (show w5.heap.size + 1 ≠ w.heap.size + 1 + 1 by omega) 2 _)
    have x16 : Ext w w16 := by rw [hw]; have hxp : Ext w w15 := (by with_reducible repeat' first | exact Ext.refl _ | assumption | apply Ext.alloc_r | apply Ext.drew_r | apply Ext.drewN_r | refine Ext.trans ?_ ‹Ext _ _›); exact (Ext.set_ (Ext.set_ (Ext.set_ hxp (show _ ≤ w.heap.size + 1 + 1 by omega)) (show _ ≤ w.heap.size + 1 + 1 by omega)) (show _ ≤ w.heap.size + 1 + 1 by omega))
    clear bxr
    clear bxlo
    clear bxhi
    clear bxnu
    clear bxde
    have bxr := nbr
    clear nbr
    have bxlo := nblo
    clear nblo
    have bxhi := nbhi
    clear nbhi
    have bxnu := nbnu
    clear nbnu
    have bxde := nbde
    clear nbde
    have szw16 : w16.heap.size = w15.heap.size := by rw [hw]; simp
    replace zz := (zz.ext (by with_reducible repeat' first | exact Ext.refl _ | assumption | apply Ext.alloc_r | apply Ext.drew_r | apply Ext.drewN_r | refine Ext.trans ?_ ‹Ext _ _›)).kept kw16
    replace zd := (zd.ext (by with_reducible repeat' first | exact Ext.refl _ | assumption | apply Ext.alloc_r | apply Ext.drew_r | apply Ext.drewN_r | refine Ext.trans ?_ ‹Ext _ _›)).kept kw16
    clear hw kw16
    have HZ := Lib.hid zz
    have HDN := Lib.hid zd
    clear zz zd
    have kr_0 := bxr.c 0 (.bool sz) rfl
    have kr_1 := bxr.c 1 (.slice Az Lz cz) rfl
    have kr_2 := bxr.c 2 (.slice Bb Mb db) rfl
    have klo_0 := bxlo.c 0 (.bool sx) rfl
    have klo_1 := bxlo.c 1 (.slice Ax Lx cx) rfl
    have klo_2 := bxlo.c 2 (.slice Bx Mx dx) rfl
    have khi_0 := bxhi.c 0 (.bool sy) rfl
    have khi_1 := bxhi.c 1 (.slice Ay Ly cy) rfl
    have khi_2 := bxhi.c 2 (.slice By My dy) rfl
    have knu_0 := bxnu.c 0 (.bool sb) rfl
    have knu_1 := bxnu.c 1 (.slice Ab Lb cb) rfl
    have kde_0 := bxde.c 0 (.bool tb) rfl
    have kde_1 := bxde.c 1 (.slice Bb Mb db) rfl
    go_wp2_with fail
    clear kr_0 kr_1 kr_2 klo_0 klo_1 klo_2 khi_0 khi_1 khi_2 knu_0 knu_1 kde_0 kde_1
    rw [Exit.noGoto_ret]
    have hro : RO w16 w.heap.size sz Az cz Lz Bb db Mb (K + 1) q := ⟨HZ.out, by have h5 := HDN.out.no; rwa [Int.natAbs_natCast] at h5, by have h5 := HDN.out.len; rwa [Int.natAbs_natCast] at h5, HBD.out.1, HBD.out.2⟩
    have HRO := Lib.hid hro
    clear hro HZ
    have kr_0 := bxr.c 0 (.bool sz) rfl
    have kr_1 := bxr.c 1 (.slice Az Lz cz) rfl
    have kr_2 := bxr.c 2 (.slice Bb Mb db) rfl
    refine bodyPost_ret (v := .tuple #[.agg #[.bool sz, .slice Az Lz cz, .slice Bb Mb db], .int .i64 0]) (by simp [results, Try.results51, go_sem, kr_0, kr_1, kr_2]) rfl ?_
    exact ⟨_, _, _, _, _, _, _, rfl, HRO.out, x16⟩
theorem rsimp_r {w : World} {s1 s2 : Bool} {A1 A2 B1 B2 : Option Addr} {c1 c2 d1 d2 L1 L2 M1 M2 K : Nat} {q1 q2 : Rat} (h1 : RV w s1 A1 c1 L1 B1 d1 M1 K q1) (h2 : RV w s2 A2 c2 L2 B2 d2 M2 K q2) (hK : K ≤ 40) (hab : q1 < q2) {q : Rat} (hq : IsSimp q1 q2 q) :
    Calls Try.prog 51 #[Value.agg #[.bool s1, .slice A1 L1 c1, .slice B1 M1 d1], Value.agg #[.bool s2, .slice A2 L2 c2, .slice B2 M2 d2]] w (RetRE w (K + 1) q) := by
  by_cases ha : 0 ≤ q1.num
  · exact rsimp_pos h1 h2 hK hab ha hq
  · by_cases hb : 0 < q2.num
    · have h5 : q1 < 0 := (rat_neg0 _).2 (by omega)
      have h6 : 0 < q2 := (rat_pos0 _).2 hb
      obtain rfl := (isSimp_zero h5 h6).unique hq
      exact rsimp_zero h1 h2 hK h5 h6
    · exact rsimp_neg h1 h2 hK hab (by omega) (by omega) hq
end Go.Proofs.Ytfnmbhjifdfibaa
