import Derived.Test.YtehhkeenjlpikaaGreatSeIvB
import Derived.Test.YtehhkeenjlpikaaGreatTail
import Derived.Deep.RegionHeldLaw
import Derived.Deep.LoopGhost
import Derived.Deep.QuietTactic
import Derived.BigQuiet
namespace Go.Proofs.YtehhkeenjlpikaaGreat
open Go.RowKit
theorem BK.set3 {w : World} {b : Nat} {T : TypeId} {u0 u1 u2 v0 v1 v2 : Value} (h : BK w b T #[u0, u1, u2]) : BK (((w.setCell ⟨b, 0, none⟩ v0).setCell ⟨b, 1, none⟩ v1).setCell ⟨b, 2, none⟩ v2) b T #[v0, v1, v2] :=
  (BK.set (i := 2) (u := v2) (vs' := #[v0, v1, v2]) (BK.set (i := 1) (u := v1) (vs' := #[v0, v1, u2]) (BK.set (i := 0) (u := v0) (vs' := #[v0, u1, u2]) h rfl) rfl) rfl)
theorem BK.set6 {w : World} {b : Nat} {T : TypeId} {u0 u1 u2 u3 u4 u5 v0 v1 v2 v3 v4 v5 : Value} (h : BK w b T #[u0, u1, u2, u3, u4, u5]) : BK ((((((w.setCell ⟨b, 0, none⟩ v0).setCell ⟨b, 1, none⟩ v1).setCell ⟨b, 2, none⟩ v2).setCell ⟨b, 3, none⟩ v3).setCell ⟨b, 4, none⟩ v4).setCell ⟨b, 5, none⟩ v5) b T #[v0, v1, v2, v3, v4, v5] :=
  (BK.set (i := 5) (u := v5) (vs' := #[v0, v1, v2, v3, v4, v5]) (BK.set (i := 4) (u := v4) (vs' := #[v0, v1, v2, v3, v4, u5]) (BK.set (i := 3) (u := v3) (vs' := #[v0, v1, v2, v3, u4, u5]) (BK.set (i := 2) (u := v2) (vs' := #[v0, v1, v2, u3, u4, u5]) (BK.set (i := 1) (u := v1) (vs' := #[v0, v1, u2, u3, u4, u5]) (BK.set (i := 0) (u := v0) (vs' := #[v0, u1, u2, u3, u4, u5]) h rfl) rfl) rfl) rfl) rfl) rfl)
theorem BK.set12 {w : World} {b : Nat} {T : TypeId} {u0 u1 u2 u3 u4 u5 u6 u7 u8 u9 u10 u11 v0 v1 v2 v3 v4 v5 v6 v7 v8 v9 v10 v11 : Value} (h : BK w b T #[u0, u1, u2, u3, u4, u5, u6, u7, u8, u9, u10, u11]) : BK ((((((((((((w.setCell ⟨b, 0, none⟩ v0).setCell ⟨b, 1, none⟩ v1).setCell ⟨b, 2, none⟩ v2).setCell ⟨b, 3, none⟩ v3).setCell ⟨b, 4, none⟩ v4).setCell ⟨b, 5, none⟩ v5).setCell ⟨b, 6, none⟩ v6).setCell ⟨b, 7, none⟩ v7).setCell ⟨b, 8, none⟩ v8).setCell ⟨b, 9, none⟩ v9).setCell ⟨b, 10, none⟩ v10).setCell ⟨b, 11, none⟩ v11) b T #[v0, v1, v2, v3, v4, v5, v6, v7, v8, v9, v10, v11] :=
  (BK.set (i := 11) (u := v11) (vs' := #[v0, v1, v2, v3, v4, v5, v6, v7, v8, v9, v10, v11]) (BK.set (i := 10) (u := v10) (vs' := #[v0, v1, v2, v3, v4, v5, v6, v7, v8, v9, v10, u11]) (BK.set (i := 9) (u := v9) (vs' := #[v0, v1, v2, v3, v4, v5, v6, v7, v8, v9, u10, u11]) (BK.set (i := 8) (u := v8) (vs' := #[v0, v1, v2, v3, v4, v5, v6, v7, v8, u9, u10, u11]) (BK.set (i := 7) (u := v7) (vs' := #[v0, v1, v2, v3, v4, v5, v6, v7, u8, u9, u10, u11]) (BK.set (i := 6) (u := v6) (vs' := #[v0, v1, v2, v3, v4, v5, v6, u7, u8, u9, u10, u11]) (BK.set (i := 5) (u := v5) (vs' := #[v0, v1, v2, v3, v4, v5, u6, u7, u8, u9, u10, u11]) (BK.set (i := 4) (u := v4) (vs' := #[v0, v1, v2, v3, v4, u5, u6, u7, u8, u9, u10, u11]) (BK.set (i := 3) (u := v3) (vs' := #[v0, v1, v2, v3, u4, u5, u6, u7, u8, u9, u10, u11]) (BK.set (i := 2) (u := v2) (vs' := #[v0, v1, v2, u3, u4, u5, u6, u7, u8, u9, u10, u11]) (BK.set (i := 1) (u := v1) (vs' := #[v0, v1, u2, u3, u4, u5, u6, u7, u8, u9, u10, u11]) (BK.set (i := 0) (u := v0) (vs' := #[v0, u1, u2, u3, u4, u5, u6, u7, u8, u9, u10, u11]) h rfl) rfl) rfl) rfl) rfl) rfl) rfl) rfl) rfl) rfl) rfl) rfl)
theorem BK.far3 {w : World} {b b' : Nat} {T : TypeId} {vs : Array Value} {v0 v1 v2 : Value} (hne : b ≠ b') (h : BK w b T vs) : BK (((w.setCell ⟨b', 0, none⟩ v0).setCell ⟨b', 1, none⟩ v1).setCell ⟨b', 2, none⟩ v2) b T vs :=
  ((h.far hne 0 v0).far hne 1 v1).far hne 2 v2
theorem BK.alloc_ {w : World} {b : Nat} {T : TypeId} {vs : Array Value} {o : Obj} (h : BK w b T vs) : BK (w.alloc o) b T vs := h.ext (Ext.alloc _ _)
theorem BK.drew_ {w : World} {b : Nat} {T : TypeId} {vs : Array Value} (h : BK w b T vs) : BK w.drew b T vs := h.ext (Ext.drew _)
theorem BK.new_ {w : World} {b : Nat} {T : TypeId} {vs : Array Value} (hb : b = w.heap.size) : BK (w.alloc (.cells vs T)) b T vs := by rw [hb]; exact BK.new w vs T
theorem plain_a4 : ¬ Plain 90 := by unfold Plain; decide
theorem Kept.setR6 {a w : World} {g i : Nat} {s : Option Nat} {u : Value} (hb : IsBox w g 27) (h : Kept a w) : Kept a (w.setCell ⟨g, i, s⟩ u) := h.set_ hb plain_rat
theorem Kept.setA6 {a w : World} {g i : Nat} {s : Option Nat} {u : Value} (hb : IsBox w g 90) (h : Kept a w) : Kept a (w.setCell ⟨g, i, s⟩ u) := h.set_ hb plain_a4
theorem Kept.setI6 {a w : World} {g i : Nat} {s : Option Nat} {u : Value} (hb : IsBox w g 29) (h : Kept a w) : Kept a (w.setCell ⟨g, i, s⟩ u) := h.set_ hb plain_iv
/-- Two boxes of the same fraction, laid behind w. -/
def PutLH (w w' : World) (vs : Array Value) (s t : Value) : Prop := ∃ b b', s = .pointer (some ⟨b, 0, none⟩) ∧ t = .pointer (some ⟨b', 0, none⟩) ∧ w.heap.size ≤ b ∧ w.heap.size ≤ b' ∧ b ≠ b' ∧ BK w' b 27 vs ∧ BK w' b' 27 vs ∧ Kept w w' ∧ Ext w w'
theorem PutLH.mk {w w' : World} {vs : Array Value} {b b' : Nat} (h1 : w.heap.size ≤ b) (h2 : w.heap.size ≤ b') (hne : b ≠ b') (k1 : BK w' b 27 vs) (k2 : BK w' b' 27 vs) (hk : Kept w w') (hx : Ext w w') : PutLH w w' vs (.pointer (some ⟨b, 0, none⟩)) (.pointer (some ⟨b', 0, none⟩)) :=
  ⟨b, b', rfl, rfl, h1, h2, hne, k1, k2, hk, hx⟩
/-- The least and the greatest so far, in their boxes. -/
def LH (w : World) (g N b b' : Nat) (p q : Rat) : Prop := ∃ s A c L B d M s' A' c' L' B' d' M', BK w b 27 #[.bool s, .slice A L c, .slice B M d] ∧ BK w b' 27 #[.bool s', .slice A' L' c', .slice B' M' d'] ∧ RO w g s A c L B d M N p ∧ RO w g s' A' c' L' B' d' M' N q
theorem LH.mk {w : World} {g N b b' : Nat} {p q : Rat} {s s' : Bool} {A B A' B' : Option Addr} {c L d M c' L' d' M' : Nat} (h1 : BK w b 27 #[.bool s, .slice A L c, .slice B M d]) (h2 : BK w b' 27 #[.bool s', .slice A' L' c', .slice B' M' d']) (k1 : RO w g s A c L B d M N p) (k2 : RO w g s' A' c' L' B' d' M' N q) : LH w g N b b' p q := ⟨s, A, c, L, B, d, M, s', A', c', L', B', d', M', h1, h2, k1, k2⟩
/-- A fraction in a box laid behind w. -/
def PutE (w w' : World) (g N : Nat) (p : Rat) (sl : Value) : Prop := ∃ b s A c L B d M, sl = .pointer (some ⟨b, 0, none⟩) ∧ w.heap.size ≤ b ∧ BK w' b 27 #[.bool s, .slice A L c, .slice B M d] ∧ RO w' g s A c L B d M N p ∧ Kept w w' ∧ Ext w w'
theorem PutE.mk {w w' : World} {g N b : Nat} {p : Rat} {s : Bool} {A B : Option Addr} {c L d M : Nat} (hb : w.heap.size ≤ b) (h1 : BK w' b 27 #[.bool s, .slice A L c, .slice B M d]) (k1 : RO w' g s A c L B d M N p) (hk : Kept w w') (hx : Ext w w') : PutE w w' g N p (.pointer (some ⟨b, 0, none⟩)) := ⟨b, s, A, c, L, B, d, M, rfl, hb, h1, k1, hk, hx⟩
/-- f folded over four numbers, the first taken for a start. -/
def mk4 (f : Rat → Rat → Rat) (p1 p2 p3 p4 : Rat) : Nat → Rat
  | 0 => p1
  | 1 => f p1 p1
  | 2 => f (f p1 p1) p2
  | 3 => f (f (f p1 p1) p2) p3
  | _ => f (f (f (f p1 p1) p2) p3) p4
theorem index4_0 (v0 v1 v2 v3 v4 v5 v6 v7 v8 v9 v10 v11 : Value) (w : World) : (Instr.index 90 (.agg #[v0, v1, v2, v3, v4, v5, v6, v7, v8, v9, v10, v11]) (.int .i64 0)).run Tryz.prog w = .ok (.agg #[v0, v1, v2]) w := by kernel_rfl
theorem index4_1 (v0 v1 v2 v3 v4 v5 v6 v7 v8 v9 v10 v11 : Value) (w : World) : (Instr.index 90 (.agg #[v0, v1, v2, v3, v4, v5, v6, v7, v8, v9, v10, v11]) (.int .i64 1)).run Tryz.prog w = .ok (.agg #[v3, v4, v5]) w := by kernel_rfl
theorem index4_2 (v0 v1 v2 v3 v4 v5 v6 v7 v8 v9 v10 v11 : Value) (w : World) : (Instr.index 90 (.agg #[v0, v1, v2, v3, v4, v5, v6, v7, v8, v9, v10, v11]) (.int .i64 2)).run Tryz.prog w = .ok (.agg #[v6, v7, v8]) w := by kernel_rfl
theorem index4_3 (v0 v1 v2 v3 v4 v5 v6 v7 v8 v9 v10 v11 : Value) (w : World) : (Instr.index 90 (.agg #[v0, v1, v2, v3, v4, v5, v6, v7, v8, v9, v10, v11]) (.int .i64 3)).run Tryz.prog w = .ok (.agg #[v9, v10, v11]) w := by kernel_rfl
/-- The number at a place. -/
def nth4 (p1 p2 p3 p4 : Rat) : Nat → Rat
  | 0 => p1
  | 1 => p2
  | 2 => p3
  | _ => p4
theorem mk4_succ (f : Rat → Rat → Rat) (p1 p2 p3 p4 : Rat) {k : Nat} (h : k < 4) : mk4 f p1 p2 p3 p4 (k + 1) = f (mk4 f p1 p2 p3 p4 k) (nth4 p1 p2 p3 p4 k) := by
  match k, h with
  | 0, _ => rfl
  | 1, _ => rfl
  | 2, _ => rfl
  | 3, _ => rfl
/-- The products in their box. -/
def PutP (w w' : World) (g N : Nat) (p1 p2 p3 p4 : Rat) (sl : Value) : Prop := ∃ b s1 A1 c1 L1 B1 d1 M1 s2 A2 c2 L2 B2 d2 M2 s3 A3 c3 L3 B3 d3 M3 s4 A4 c4 L4 B4 d4 M4, sl = .pointer (some ⟨b, 0, none⟩) ∧ w.heap.size ≤ b ∧ BK w' b 90 #[.bool s1, .slice A1 L1 c1, .slice B1 M1 d1, .bool s2, .slice A2 L2 c2, .slice B2 M2 d2, .bool s3, .slice A3 L3 c3, .slice B3 M3 d3, .bool s4, .slice A4 L4 c4, .slice B4 M4 d4] ∧ RO w' g s1 A1 c1 L1 B1 d1 M1 N p1 ∧ RO w' g s2 A2 c2 L2 B2 d2 M2 N p2 ∧ RO w' g s3 A3 c3 L3 B3 d3 M3 N p3 ∧ RO w' g s4 A4 c4 L4 B4 d4 M4 N p4 ∧ Ext w w'
theorem PutP.mk {w w' : World} {g N b : Nat} {p1 p2 p3 p4 : Rat} {s1 s2 s3 s4 : Bool} {A1 B1 A2 B2 A3 B3 A4 B4 : Option Addr} {c1 d1 L1 M1 c2 d2 L2 M2 c3 d3 L3 M3 c4 d4 L4 M4 : Nat} (hb : w.heap.size ≤ b) (hk : BK w' b 90 #[.bool s1, .slice A1 L1 c1, .slice B1 M1 d1, .bool s2, .slice A2 L2 c2, .slice B2 M2 d2, .bool s3, .slice A3 L3 c3, .slice B3 M3 d3, .bool s4, .slice A4 L4 c4, .slice B4 M4 d4]) (h1 : RO w' g s1 A1 c1 L1 B1 d1 M1 N p1) (h2 : RO w' g s2 A2 c2 L2 B2 d2 M2 N p2) (h3 : RO w' g s3 A3 c3 L3 B3 d3 M3 N p3) (h4 : RO w' g s4 A4 c4 L4 B4 d4 M4 N p4) (hx : Ext w w') : PutP w w' g N p1 p2 p3 p4 (.pointer (some ⟨b, 0, none⟩)) :=
  ⟨b, s1, A1, c1, L1, B1, d1, M1, s2, A2, c2, L2, B2, d2, M2, s3, A3, c3, L3, B3, d3, M3, s4, A4, c4, L4, B4, d4, M4, rfl, hb, hk, h1, h2, h3, h4, hx⟩
set_option maxHeartbeats 4000000 in
set_option maxRecDepth 100000 in
theorem imul_r {w : World} {N K : Nat} {s1 s2 s3 s4 : Bool} {A1 B1 A2 B2 A3 B3 A4 B4 : Option Addr} {c1 d1 L1 M1 c2 d2 L2 M2 c3 d3 L3 M3 c4 d4 L4 M4 : Nat} {q1 q2 q3 q4 : Rat} (h1 : RV w s1 A1 c1 L1 B1 d1 M1 N q1) (h2 : RV w s2 A2 c2 L2 B2 d2 M2 N q2) (h3 : RV w s3 A3 c3 L3 B3 d3 M3 K q3) (h4 : RV w s4 A4 c4 L4 B4 d4 M4 K q4) (hN : N + K < 48) :
    Calls Tryz.prog 28 #[Value.agg #[Value.bool s1, Value.slice A1 L1 c1, Value.slice B1 M1 d1, Value.bool s2, Value.slice A2 L2 c2, Value.slice B2 M2 d2], Value.agg #[Value.bool s3, Value.slice A3 L3 c3, Value.slice B3 M3 d3, Value.bool s4, Value.slice A4 L4 c4, Value.slice B4 M4 d4]] w (RetI w (N + K) (mlo q1 q2 q3 q4) (mhi q1 q2 q3 q4)) := by
  go_enter Tryz.func28, Tryz.ntmps28
  go_wp2_with fail
  obtain ⟨w0, hw0⟩ : ∃ z : World, z = (((w.alloc (.cells #[.bool s1, .slice A1 L1 c1, .slice B1 M1 d1, .bool s2, .slice A2 L2 c2, .slice B2 M2 d2] 29)).alloc (.cells #[.bool s3, .slice A3 L3 c3, .slice B3 M3 d3, .bool s4, .slice A4 L4 c4, .slice B4 M4 d4] 29)).alloc (.cells #[.bool false, .slice none 0 0, .slice none 0 0, .bool false, .slice none 0 0, .slice none 0 0] 29)) := ⟨_, rfl⟩
  rw [← hw0]
  have bxi : BK w0 (w.heap.size) 29 #[.bool s1, .slice A1 L1 c1, .slice B1 M1 d1, .bool s2, .slice A2 L2 c2, .slice B2 M2 d2] := by rw [hw0]; have h5 := (BK.ext (BK.ext (BK.new w #[.bool s1, .slice A1 L1 c1, .slice B1 M1 d1, .bool s2, .slice A2 L2 c2, .slice B2 M2 d2] 29) (Ext.alloc _ (.cells #[.bool s3, .slice A3 L3 c3, .slice B3 M3 d3, .bool s4, .slice A4 L4 c4, .slice B4 M4 d4] 29))) (Ext.alloc _ (.cells #[.bool false, .slice none 0 0, .slice none 0 0, .bool false, .slice none 0 0, .slice none 0 0] 29))); simpa only [World.size_alloc] using h5
  have bxj : BK w0 (w.heap.size + 1) 29 #[.bool s3, .slice A3 L3 c3, .slice B3 M3 d3, .bool s4, .slice A4 L4 c4, .slice B4 M4 d4] := by rw [hw0]; have h5 := (BK.ext (BK.new (w.alloc (.cells #[.bool s1, .slice A1 L1 c1, .slice B1 M1 d1, .bool s2, .slice A2 L2 c2, .slice B2 M2 d2] 29)) #[.bool s3, .slice A3 L3 c3, .slice B3 M3 d3, .bool s4, .slice A4 L4 c4, .slice B4 M4 d4] 29) (Ext.alloc _ (.cells #[.bool false, .slice none 0 0, .slice none 0 0, .bool false, .slice none 0 0, .slice none 0 0] 29))); simpa only [World.size_alloc] using h5
  have bxr : BK w0 (w.heap.size + 1 + 1) 29 #[.bool false, .slice none 0 0, .slice none 0 0, .bool false, .slice none 0 0, .slice none 0 0] := by rw [hw0]; have h5 := (BK.new ((w.alloc (.cells #[.bool s1, .slice A1 L1 c1, .slice B1 M1 d1, .bool s2, .slice A2 L2 c2, .slice B2 M2 d2] 29)).alloc (.cells #[.bool s3, .slice A3 L3 c3, .slice B3 M3 d3, .bool s4, .slice A4 L4 c4, .slice B4 M4 d4] 29)) #[.bool false, .slice none 0 0, .slice none 0 0, .bool false, .slice none 0 0, .slice none 0 0] 29); simpa only [World.size_alloc] using h5
  have hszw0 : w0.heap.size = w.heap.size + 1 + 1 + 1 := by rw [hw0]; simp only [World.size_alloc]
  have xw0 : Ext w w0 := by rw [hw0]; exact (((Ext.alloc _ _).trans (Ext.alloc _ _)).trans (Ext.alloc _ _))
  clear hw0
  have e1 := h1.ext xw0
  have e2 := h2.ext xw0
  have e3 := h3.ext xw0
  have e4 := h4.ext xw0
  clear h1 h2 h3 h4
  have ki_0 := bxi.c 0 (.bool s1) rfl
  have ki_1 := bxi.c 1 (.slice A1 L1 c1) rfl
  have ki_2 := bxi.c 2 (.slice B1 M1 d1) rfl
  have ki_3 := bxi.c 3 (.bool s2) rfl
  have ki_4 := bxi.c 4 (.slice A2 L2 c2) rfl
  have ki_5 := bxi.c 5 (.slice B2 M2 d2) rfl
  have kj_0 := bxj.c 0 (.bool s3) rfl
  have kj_1 := bxj.c 1 (.slice A3 L3 c3) rfl
  have kj_2 := bxj.c 2 (.slice B3 M3 d3) rfl
  have kj_3 := bxj.c 3 (.bool s4) rfl
  have kj_4 := bxj.c 4 (.slice A4 L4 c4) rfl
  have kj_5 := bxj.c 5 (.slice B4 M4 d4) rfl
  have HSZ := Lib.hid (And.intro True.intro hszw0)
  clear hszw0
  go_wp2_with fail
  go_cut [5] (fun s5 wx => PutP w0 wx w0.heap.size (N + K) (q1 * q3) (q1 * q4) (q2 * q3) (q2 * q4) s5)
  case first =>
    have HK : Hid (∀ w', Ext w0 w' → Ext w0 w' ∧ w'.cell? ⟨w.heap.size, 0, none⟩ = some (.bool s1) ∧ w'.cell? ⟨w.heap.size, 1, none⟩ = some (.slice A1 L1 c1) ∧ w'.cell? ⟨w.heap.size, 2, none⟩ = some (.slice B1 M1 d1) ∧ w'.cell? ⟨w.heap.size, 3, none⟩ = some (.bool s2) ∧ w'.cell? ⟨w.heap.size, 4, none⟩ = some (.slice A2 L2 c2) ∧ w'.cell? ⟨w.heap.size, 5, none⟩ = some (.slice B2 M2 d2) ∧ w'.cell? ⟨w.heap.size + 1, 0, none⟩ = some (.bool s3) ∧ w'.cell? ⟨w.heap.size + 1, 1, none⟩ = some (.slice A3 L3 c3) ∧ w'.cell? ⟨w.heap.size + 1, 2, none⟩ = some (.slice B3 M3 d3) ∧ w'.cell? ⟨w.heap.size + 1, 3, none⟩ = some (.bool s4) ∧ w'.cell? ⟨w.heap.size + 1, 4, none⟩ = some (.slice A4 L4 c4) ∧ w'.cell? ⟨w.heap.size + 1, 5, none⟩ = some (.slice B4 M4 d4)) := fun w' hk => ⟨hk, hk.cell ki_0, hk.cell ki_1, hk.cell ki_2, hk.cell ki_3, hk.cell ki_4, hk.cell ki_5, hk.cell kj_0, hk.cell kj_1, hk.cell kj_2, hk.cell kj_3, hk.cell kj_4, hk.cell kj_5⟩
    first
    | go_region_held3 (fun w' => Ext w0 w' ∧ w'.cell? ⟨w.heap.size, 0, none⟩ = some (.bool s1) ∧ w'.cell? ⟨w.heap.size, 1, none⟩ = some (.slice A1 L1 c1) ∧ w'.cell? ⟨w.heap.size, 2, none⟩ = some (.slice B1 M1 d1) ∧ w'.cell? ⟨w.heap.size, 3, none⟩ = some (.bool s2) ∧ w'.cell? ⟨w.heap.size, 4, none⟩ = some (.slice A2 L2 c2) ∧ w'.cell? ⟨w.heap.size, 5, none⟩ = some (.slice B2 M2 d2) ∧ w'.cell? ⟨w.heap.size + 1, 0, none⟩ = some (.bool s3) ∧ w'.cell? ⟨w.heap.size + 1, 1, none⟩ = some (.slice A3 L3 c3) ∧ w'.cell? ⟨w.heap.size + 1, 2, none⟩ = some (.slice B3 M3 d3) ∧ w'.cell? ⟨w.heap.size + 1, 3, none⟩ = some (.bool s4) ∧ w'.cell? ⟨w.heap.size + 1, 4, none⟩ = some (.slice A4 L4 c4) ∧ w'.cell? ⟨w.heap.size + 1, 5, none⟩ = some (.slice B4 M4 d4))
        ((with_reducible refine HK.out _ ?_; (repeat' first | (with_reducible first | exact Ext.refl _ | assumption | apply Ext.alloc_r | apply Ext.drew_r | apply Ext.drewN_r | apply Ext.set_r | exact Nat.le_refl _) | omega | with_reducible refine Ext.trans ?_ ‹Ext _ _›)))
        (first
          | (go_at_call_of 59 (#[Value.agg #[Value.bool s2, Value.slice A2 L2 c2, Value.slice B2 M2 d2], Value.agg #[Value.bool s4, Value.slice A4 L4 c4, Value.slice B4 M4 d4]]); have hgd := x; clear hgd; refine (rmul_r (e2.ext (by with_reducible repeat' first | exact Ext.refl _ | assumption | apply Ext.alloc_r | apply Ext.drew_r | apply Ext.drewN_r | refine Ext.trans ?_ ‹Ext _ _›)) (e4.ext (by with_reducible repeat' first | exact Ext.refl _ | assumption | apply Ext.alloc_r | apply Ext.drew_r | apply Ext.drewN_r | refine Ext.trans ?_ ‹Ext _ _›)) (by omega) (by omega)).mono ?_; rintro e w4 ⟨sy, Ay, cy, Ly, By, dy, My, rfl, y, x4⟩; (have zs4 := x4.size); (try simp only [World.size_alloc] at zs4); (try ((with_reducible have h4_0 := box_ext (vs := #[.bool false, .slice none 0 0, .slice none 0 0, .bool false, .slice none 0 0, .slice none 0 0, .bool false, .slice none 0 0, .slice none 0 0, .bool false, .slice none 0 0, .slice none 0 0]) x4); have h4_0c0 := (h4_0.1 0 (.bool false) rfl).1; have h4_0f0 := (h4_0.1 0 (.bool false) rfl).2; have h4_0c1 := (h4_0.1 1 (.slice none 0 0) rfl).1; have h4_0f1 := (h4_0.1 1 (.slice none 0 0) rfl).2; have h4_0c2 := (h4_0.1 2 (.slice none 0 0) rfl).1; have h4_0f2 := (h4_0.1 2 (.slice none 0 0) rfl).2; have h4_0c3 := (h4_0.1 3 (.bool false) rfl).1; have h4_0f3 := (h4_0.1 3 (.bool false) rfl).2; have h4_0c4 := (h4_0.1 4 (.slice none 0 0) rfl).1; have h4_0f4 := (h4_0.1 4 (.slice none 0 0) rfl).2; have h4_0c5 := (h4_0.1 5 (.slice none 0 0) rfl).1; have h4_0f5 := (h4_0.1 5 (.slice none 0 0) rfl).2; have h4_0c6 := (h4_0.1 6 (.bool false) rfl).1; have h4_0f6 := (h4_0.1 6 (.bool false) rfl).2; have h4_0c7 := (h4_0.1 7 (.slice none 0 0) rfl).1; have h4_0f7 := (h4_0.1 7 (.slice none 0 0) rfl).2; have h4_0c8 := (h4_0.1 8 (.slice none 0 0) rfl).1; have h4_0f8 := (h4_0.1 8 (.slice none 0 0) rfl).2; have h4_0c9 := (h4_0.1 9 (.bool false) rfl).1; have h4_0f9 := (h4_0.1 9 (.bool false) rfl).2; have h4_0c10 := (h4_0.1 10 (.slice none 0 0) rfl).1; have h4_0f10 := (h4_0.1 10 (.slice none 0 0) rfl).2; have h4_0c11 := (h4_0.1 11 (.slice none 0 0) rfl).1; have h4_0f11 := (h4_0.1 11 (.slice none 0 0) rfl).2; have h4_0b := h4_0.2.1; have h4_0z := h4_0.2.2; (try simp only [World.size_alloc] at h4_0b h4_0z h4_0c0 h4_0f0 h4_0c1 h4_0f1 h4_0c2 h4_0f2 h4_0c3 h4_0f3 h4_0c4 h4_0f4 h4_0c5 h4_0f5 h4_0c6 h4_0f6 h4_0c7 h4_0f7 h4_0c8 h4_0f8 h4_0c9 h4_0f9 h4_0c10 h4_0f10 h4_0c11 h4_0f11); have h4_0m := Nat.ne_of_lt h4_0z; have h4_0n := Nat.ne_of_gt h4_0z; clear h4_0)); (try (have hh : Ext w1 w4 := ?g400; (case g400 => ((with_reducible repeat' first | exact Ext.refl _ | assumption | apply Ext.alloc_r | apply Ext.drew_r | apply Ext.drewN_r | refine Ext.trans ?_ ‹Ext _ _›); done)); replace h1_0f0 := hh.frozen h1_0c0 h1_0f0; replace h1_0c0 := hh.cell h1_0c0; replace h1_0f1 := hh.frozen h1_0c1 h1_0f1; replace h1_0c1 := hh.cell h1_0c1; replace h1_0f2 := hh.frozen h1_0c2 h1_0f2; replace h1_0c2 := hh.cell h1_0c2; replace h1_0f3 := hh.frozen h1_0c3 h1_0f3; replace h1_0c3 := hh.cell h1_0c3; replace h1_0f4 := hh.frozen h1_0c4 h1_0f4; replace h1_0c4 := hh.cell h1_0c4; replace h1_0f5 := hh.frozen h1_0c5 h1_0f5; replace h1_0c5 := hh.cell h1_0c5; replace h1_0f6 := hh.frozen h1_0c6 h1_0f6; replace h1_0c6 := hh.cell h1_0c6; replace h1_0f7 := hh.frozen h1_0c7 h1_0f7; replace h1_0c7 := hh.cell h1_0c7; replace h1_0f8 := hh.frozen h1_0c8 h1_0f8; replace h1_0c8 := hh.cell h1_0c8; replace h1_0f9 := hh.frozen h1_0c9 h1_0f9; replace h1_0c9 := hh.cell h1_0c9; replace h1_0f10 := hh.frozen h1_0c10 h1_0f10; replace h1_0c10 := hh.cell h1_0c10; replace h1_0f11 := hh.frozen h1_0c11 h1_0f11; replace h1_0c11 := hh.cell h1_0c11; replace h1_0b := h1_0b.ext hh; have h1_0z2 := Nat.lt_of_lt_of_le h1_0z hh.size; have h1_0m2 := Nat.ne_of_lt h1_0z2; have h1_0n2 := Nat.ne_of_gt h1_0z2; clear hh)); (try (have hh : Ext w2 w4 := ?g410; (case g410 => ((with_reducible repeat' first | exact Ext.refl _ | assumption | apply Ext.alloc_r | apply Ext.drew_r | apply Ext.drewN_r | refine Ext.trans ?_ ‹Ext _ _›); done)); replace h2_0f0 := hh.frozen h2_0c0 h2_0f0; replace h2_0c0 := hh.cell h2_0c0; replace h2_0f1 := hh.frozen h2_0c1 h2_0f1; replace h2_0c1 := hh.cell h2_0c1; replace h2_0f2 := hh.frozen h2_0c2 h2_0f2; replace h2_0c2 := hh.cell h2_0c2; replace h2_0f3 := hh.frozen h2_0c3 h2_0f3; replace h2_0c3 := hh.cell h2_0c3; replace h2_0f4 := hh.frozen h2_0c4 h2_0f4; replace h2_0c4 := hh.cell h2_0c4; replace h2_0f5 := hh.frozen h2_0c5 h2_0f5; replace h2_0c5 := hh.cell h2_0c5; replace h2_0f6 := hh.frozen h2_0c6 h2_0f6; replace h2_0c6 := hh.cell h2_0c6; replace h2_0f7 := hh.frozen h2_0c7 h2_0f7; replace h2_0c7 := hh.cell h2_0c7; replace h2_0f8 := hh.frozen h2_0c8 h2_0f8; replace h2_0c8 := hh.cell h2_0c8; replace h2_0f9 := hh.frozen h2_0c9 h2_0f9; replace h2_0c9 := hh.cell h2_0c9; replace h2_0f10 := hh.frozen h2_0c10 h2_0f10; replace h2_0c10 := hh.cell h2_0c10; replace h2_0f11 := hh.frozen h2_0c11 h2_0f11; replace h2_0c11 := hh.cell h2_0c11; replace h2_0b := h2_0b.ext hh; have h2_0z2 := Nat.lt_of_lt_of_le h2_0z hh.size; have h2_0m2 := Nat.ne_of_lt h2_0z2; have h2_0n2 := Nat.ne_of_gt h2_0z2; clear hh)); (try (have hh : Ext w3 w4 := ?g420; (case g420 => ((with_reducible repeat' first | exact Ext.refl _ | assumption | apply Ext.alloc_r | apply Ext.drew_r | apply Ext.drewN_r | refine Ext.trans ?_ ‹Ext _ _›); done)); replace h3_0f0 := hh.frozen h3_0c0 h3_0f0; replace h3_0c0 := hh.cell h3_0c0; replace h3_0f1 := hh.frozen h3_0c1 h3_0f1; replace h3_0c1 := hh.cell h3_0c1; replace h3_0f2 := hh.frozen h3_0c2 h3_0f2; replace h3_0c2 := hh.cell h3_0c2; replace h3_0f3 := hh.frozen h3_0c3 h3_0f3; replace h3_0c3 := hh.cell h3_0c3; replace h3_0f4 := hh.frozen h3_0c4 h3_0f4; replace h3_0c4 := hh.cell h3_0c4; replace h3_0f5 := hh.frozen h3_0c5 h3_0f5; replace h3_0c5 := hh.cell h3_0c5; replace h3_0f6 := hh.frozen h3_0c6 h3_0f6; replace h3_0c6 := hh.cell h3_0c6; replace h3_0f7 := hh.frozen h3_0c7 h3_0f7; replace h3_0c7 := hh.cell h3_0c7; replace h3_0f8 := hh.frozen h3_0c8 h3_0f8; replace h3_0c8 := hh.cell h3_0c8; replace h3_0f9 := hh.frozen h3_0c9 h3_0f9; replace h3_0c9 := hh.cell h3_0c9; replace h3_0f10 := hh.frozen h3_0c10 h3_0f10; replace h3_0c10 := hh.cell h3_0c10; replace h3_0f11 := hh.frozen h3_0c11 h3_0f11; replace h3_0c11 := hh.cell h3_0c11; replace h3_0b := h3_0b.ext hh; have h3_0z2 := Nat.lt_of_lt_of_le h3_0z hh.size; have h3_0m2 := Nat.ne_of_lt h3_0z2; have h3_0n2 := Nat.ne_of_gt h3_0z2; clear hh)))
          | (go_at_call_of 59 (#[Value.agg #[Value.bool s2, Value.slice A2 L2 c2, Value.slice B2 M2 d2], Value.agg #[Value.bool s3, Value.slice A3 L3 c3, Value.slice B3 M3 d3]]); have hgd := v; clear hgd; refine (rmul_r (e2.ext (by with_reducible repeat' first | exact Ext.refl _ | assumption | apply Ext.alloc_r | apply Ext.drew_r | apply Ext.drewN_r | refine Ext.trans ?_ ‹Ext _ _›)) (e3.ext (by with_reducible repeat' first | exact Ext.refl _ | assumption | apply Ext.alloc_r | apply Ext.drew_r | apply Ext.drewN_r | refine Ext.trans ?_ ‹Ext _ _›)) (by omega) (by omega)).mono ?_; rintro e w3 ⟨sx, Ax, cx, Lx, Bx, dx, Mx, rfl, x, x3⟩; (have zs3 := x3.size); (try simp only [World.size_alloc] at zs3); (try ((with_reducible have h3_0 := box_ext (vs := #[.bool false, .slice none 0 0, .slice none 0 0, .bool false, .slice none 0 0, .slice none 0 0, .bool false, .slice none 0 0, .slice none 0 0, .bool false, .slice none 0 0, .slice none 0 0]) x3); have h3_0c0 := (h3_0.1 0 (.bool false) rfl).1; have h3_0f0 := (h3_0.1 0 (.bool false) rfl).2; have h3_0c1 := (h3_0.1 1 (.slice none 0 0) rfl).1; have h3_0f1 := (h3_0.1 1 (.slice none 0 0) rfl).2; have h3_0c2 := (h3_0.1 2 (.slice none 0 0) rfl).1; have h3_0f2 := (h3_0.1 2 (.slice none 0 0) rfl).2; have h3_0c3 := (h3_0.1 3 (.bool false) rfl).1; have h3_0f3 := (h3_0.1 3 (.bool false) rfl).2; have h3_0c4 := (h3_0.1 4 (.slice none 0 0) rfl).1; have h3_0f4 := (h3_0.1 4 (.slice none 0 0) rfl).2; have h3_0c5 := (h3_0.1 5 (.slice none 0 0) rfl).1; have h3_0f5 := (h3_0.1 5 (.slice none 0 0) rfl).2; have h3_0c6 := (h3_0.1 6 (.bool false) rfl).1; have h3_0f6 := (h3_0.1 6 (.bool false) rfl).2; have h3_0c7 := (h3_0.1 7 (.slice none 0 0) rfl).1; have h3_0f7 := (h3_0.1 7 (.slice none 0 0) rfl).2; have h3_0c8 := (h3_0.1 8 (.slice none 0 0) rfl).1; have h3_0f8 := (h3_0.1 8 (.slice none 0 0) rfl).2; have h3_0c9 := (h3_0.1 9 (.bool false) rfl).1; have h3_0f9 := (h3_0.1 9 (.bool false) rfl).2; have h3_0c10 := (h3_0.1 10 (.slice none 0 0) rfl).1; have h3_0f10 := (h3_0.1 10 (.slice none 0 0) rfl).2; have h3_0c11 := (h3_0.1 11 (.slice none 0 0) rfl).1; have h3_0f11 := (h3_0.1 11 (.slice none 0 0) rfl).2; have h3_0b := h3_0.2.1; have h3_0z := h3_0.2.2; (try simp only [World.size_alloc] at h3_0b h3_0z h3_0c0 h3_0f0 h3_0c1 h3_0f1 h3_0c2 h3_0f2 h3_0c3 h3_0f3 h3_0c4 h3_0f4 h3_0c5 h3_0f5 h3_0c6 h3_0f6 h3_0c7 h3_0f7 h3_0c8 h3_0f8 h3_0c9 h3_0f9 h3_0c10 h3_0f10 h3_0c11 h3_0f11); have h3_0m := Nat.ne_of_lt h3_0z; have h3_0n := Nat.ne_of_gt h3_0z; clear h3_0)))
          | (go_at_call_of 59 (#[Value.agg #[Value.bool s1, Value.slice A1 L1 c1, Value.slice B1 M1 d1], Value.agg #[Value.bool s4, Value.slice A4 L4 c4, Value.slice B4 M4 d4]]); have hgd := u; clear hgd; refine (rmul_r (e1.ext (by with_reducible repeat' first | exact Ext.refl _ | assumption | apply Ext.alloc_r | apply Ext.drew_r | apply Ext.drewN_r | refine Ext.trans ?_ ‹Ext _ _›)) (e4.ext (by with_reducible repeat' first | exact Ext.refl _ | assumption | apply Ext.alloc_r | apply Ext.drew_r | apply Ext.drewN_r | refine Ext.trans ?_ ‹Ext _ _›)) (by omega) (by omega)).mono ?_; rintro e w2 ⟨sv, Av, cv, Lv, Bv, dv, Mv, rfl, v, x2⟩; (have zs2 := x2.size); (try simp only [World.size_alloc] at zs2); (try ((with_reducible have h2_0 := box_ext (vs := #[.bool false, .slice none 0 0, .slice none 0 0, .bool false, .slice none 0 0, .slice none 0 0, .bool false, .slice none 0 0, .slice none 0 0, .bool false, .slice none 0 0, .slice none 0 0]) x2); have h2_0c0 := (h2_0.1 0 (.bool false) rfl).1; have h2_0f0 := (h2_0.1 0 (.bool false) rfl).2; have h2_0c1 := (h2_0.1 1 (.slice none 0 0) rfl).1; have h2_0f1 := (h2_0.1 1 (.slice none 0 0) rfl).2; have h2_0c2 := (h2_0.1 2 (.slice none 0 0) rfl).1; have h2_0f2 := (h2_0.1 2 (.slice none 0 0) rfl).2; have h2_0c3 := (h2_0.1 3 (.bool false) rfl).1; have h2_0f3 := (h2_0.1 3 (.bool false) rfl).2; have h2_0c4 := (h2_0.1 4 (.slice none 0 0) rfl).1; have h2_0f4 := (h2_0.1 4 (.slice none 0 0) rfl).2; have h2_0c5 := (h2_0.1 5 (.slice none 0 0) rfl).1; have h2_0f5 := (h2_0.1 5 (.slice none 0 0) rfl).2; have h2_0c6 := (h2_0.1 6 (.bool false) rfl).1; have h2_0f6 := (h2_0.1 6 (.bool false) rfl).2; have h2_0c7 := (h2_0.1 7 (.slice none 0 0) rfl).1; have h2_0f7 := (h2_0.1 7 (.slice none 0 0) rfl).2; have h2_0c8 := (h2_0.1 8 (.slice none 0 0) rfl).1; have h2_0f8 := (h2_0.1 8 (.slice none 0 0) rfl).2; have h2_0c9 := (h2_0.1 9 (.bool false) rfl).1; have h2_0f9 := (h2_0.1 9 (.bool false) rfl).2; have h2_0c10 := (h2_0.1 10 (.slice none 0 0) rfl).1; have h2_0f10 := (h2_0.1 10 (.slice none 0 0) rfl).2; have h2_0c11 := (h2_0.1 11 (.slice none 0 0) rfl).1; have h2_0f11 := (h2_0.1 11 (.slice none 0 0) rfl).2; have h2_0b := h2_0.2.1; have h2_0z := h2_0.2.2; (try simp only [World.size_alloc] at h2_0b h2_0z h2_0c0 h2_0f0 h2_0c1 h2_0f1 h2_0c2 h2_0f2 h2_0c3 h2_0f3 h2_0c4 h2_0f4 h2_0c5 h2_0f5 h2_0c6 h2_0f6 h2_0c7 h2_0f7 h2_0c8 h2_0f8 h2_0c9 h2_0f9 h2_0c10 h2_0f10 h2_0c11 h2_0f11); have h2_0m := Nat.ne_of_lt h2_0z; have h2_0n := Nat.ne_of_gt h2_0z; clear h2_0)))
          | (go_at_call_of 59 (#[Value.agg #[Value.bool s1, Value.slice A1 L1 c1, Value.slice B1 M1 d1], Value.agg #[Value.bool s3, Value.slice A3 L3 c3, Value.slice B3 M3 d3]]); refine (rmul_r (e1.ext (by with_reducible repeat' first | exact Ext.refl _ | assumption | apply Ext.alloc_r | apply Ext.drew_r | apply Ext.drewN_r | refine Ext.trans ?_ ‹Ext _ _›)) (e3.ext (by with_reducible repeat' first | exact Ext.refl _ | assumption | apply Ext.alloc_r | apply Ext.drew_r | apply Ext.drewN_r | refine Ext.trans ?_ ‹Ext _ _›)) (by omega) (by omega)).mono ?_; rintro e w1 ⟨su, Au, cu, Lu, Bu, du, Mu, rfl, u, x1⟩; (have zs1 := x1.size); (try simp only [World.size_alloc, World.size_drew] at zs1); (try ((with_reducible have h1_0 := box_ext (vs := #[.bool false, .slice none 0 0, .slice none 0 0, .bool false, .slice none 0 0, .slice none 0 0, .bool false, .slice none 0 0, .slice none 0 0, .bool false, .slice none 0 0, .slice none 0 0]) ((Ext.drew _).trans x1)); have h1_0c0 := (h1_0.1 0 (.bool false) rfl).1; have h1_0f0 := (h1_0.1 0 (.bool false) rfl).2; have h1_0c1 := (h1_0.1 1 (.slice none 0 0) rfl).1; have h1_0f1 := (h1_0.1 1 (.slice none 0 0) rfl).2; have h1_0c2 := (h1_0.1 2 (.slice none 0 0) rfl).1; have h1_0f2 := (h1_0.1 2 (.slice none 0 0) rfl).2; have h1_0c3 := (h1_0.1 3 (.bool false) rfl).1; have h1_0f3 := (h1_0.1 3 (.bool false) rfl).2; have h1_0c4 := (h1_0.1 4 (.slice none 0 0) rfl).1; have h1_0f4 := (h1_0.1 4 (.slice none 0 0) rfl).2; have h1_0c5 := (h1_0.1 5 (.slice none 0 0) rfl).1; have h1_0f5 := (h1_0.1 5 (.slice none 0 0) rfl).2; have h1_0c6 := (h1_0.1 6 (.bool false) rfl).1; have h1_0f6 := (h1_0.1 6 (.bool false) rfl).2; have h1_0c7 := (h1_0.1 7 (.slice none 0 0) rfl).1; have h1_0f7 := (h1_0.1 7 (.slice none 0 0) rfl).2; have h1_0c8 := (h1_0.1 8 (.slice none 0 0) rfl).1; have h1_0f8 := (h1_0.1 8 (.slice none 0 0) rfl).2; have h1_0c9 := (h1_0.1 9 (.bool false) rfl).1; have h1_0f9 := (h1_0.1 9 (.bool false) rfl).2; have h1_0c10 := (h1_0.1 10 (.slice none 0 0) rfl).1; have h1_0f10 := (h1_0.1 10 (.slice none 0 0) rfl).2; have h1_0c11 := (h1_0.1 11 (.slice none 0 0) rfl).1; have h1_0f11 := (h1_0.1 11 (.slice none 0 0) rfl).2; have h1_0b := h1_0.2.1; have h1_0z := h1_0.2.2; (try simp only [World.size_alloc] at h1_0b h1_0z h1_0c0 h1_0f0 h1_0c1 h1_0f1 h1_0c2 h1_0f2 h1_0c3 h1_0f3 h1_0c4 h1_0f4 h1_0c5 h1_0f5 h1_0c6 h1_0f6 h1_0c7 h1_0f7 h1_0c8 h1_0f8 h1_0c9 h1_0f9 h1_0c10 h1_0f10 h1_0c11 h1_0f11); have h1_0m := Nat.ne_of_lt h1_0z; have h1_0n := Nat.ne_of_gt h1_0z; clear h1_0))))
    | fail
    all_goals (clear HK; go_wp2_with fail; go_meet)
    all_goals
      refine PutP.mk (s1 := su) (A1 := Au) (c1 := cu) (L1 := Lu) (B1 := Bu) (d1 := du) (M1 := Mu) (s2 := sv) (A2 := Av) (c2 := cv) (L2 := Lv) (B2 := Bv) (d2 := dv) (M2 := Mv) (s3 := sx) (A3 := Ax) (c3 := cx) (L3 := Lx) (B3 := Bx) (d3 := dx) (M3 := Mx) (s4 := sy) (A4 := Ay) (c4 := cy) (L4 := Ly) (B4 := By) (d4 := dy) (M4 := My) ?_ ?_ ?_ ?_ ?_ ?_ ?_
      · (first | exact Nat.le_refl _ | omega | (simp only [World.size_alloc, World.size_drew]; omega) | (simp; omega))
      · (repeat' (first | with_reducible assumption | with_reducible apply BK.set12 | with_reducible apply BK.set6 | with_reducible apply BK.set3 | (with_reducible apply BK.far3; (case hne => (first | assumption | omega | (simp; done) | (simp only [World.size_alloc, World.size_drew]; omega)))) | (with_reducible apply BK.new_; (first | rfl | (simp; done))) | with_reducible apply BK.alloc_ | with_reducible apply BK.drew_ | with_reducible refine BK.ext ?_ ‹Ext _ _›))
      · exact (u.mono (by first | omega | (simp only [World.size_alloc]; omega) | (simp only [World.size_drew]; omega) | (simp only [World.size_drew, World.size_alloc]; omega))).kept (by (repeat' (first | with_reducible exact Kept.refl _ | with_reducible apply Kept.alloc_r | with_reducible apply Kept.drew_r | (with_reducible apply Kept.setR6; (case hb => ((with_reducible repeat' first | assumption | apply IsBox.set_ | (apply IsBox.new; (first | rfl | simp); done) | apply IsBox.alloc_ | apply IsBox.drew_ | refine IsBox.ext ?_ ‹Ext _ _›); done))) | (with_reducible apply Kept.setA6; (case hb => ((with_reducible repeat' first | assumption | apply IsBox.set_ | (apply IsBox.new; (first | rfl | simp); done) | apply IsBox.alloc_ | apply IsBox.drew_ | refine IsBox.ext ?_ ‹Ext _ _›); done))) | (with_reducible apply Kept.setI6; (case hb => ((with_reducible repeat' first | assumption | apply IsBox.set_ | (apply IsBox.new; (first | rfl | simp); done) | apply IsBox.alloc_ | apply IsBox.drew_ | refine IsBox.ext ?_ ‹Ext _ _›); done))) | with_reducible refine Kept.trans ?_ (Ext.kept ‹Ext _ _›))))
      · exact (v.mono (by first | omega | (simp only [World.size_alloc]; omega) | (simp only [World.size_drew]; omega) | (simp only [World.size_drew, World.size_alloc]; omega))).kept (by (repeat' (first | with_reducible exact Kept.refl _ | with_reducible apply Kept.alloc_r | with_reducible apply Kept.drew_r | (with_reducible apply Kept.setR6; (case hb => ((with_reducible repeat' first | assumption | apply IsBox.set_ | (apply IsBox.new; (first | rfl | simp); done) | apply IsBox.alloc_ | apply IsBox.drew_ | refine IsBox.ext ?_ ‹Ext _ _›); done))) | (with_reducible apply Kept.setA6; (case hb => ((with_reducible repeat' first | assumption | apply IsBox.set_ | (apply IsBox.new; (first | rfl | simp); done) | apply IsBox.alloc_ | apply IsBox.drew_ | refine IsBox.ext ?_ ‹Ext _ _›); done))) | (with_reducible apply Kept.setI6; (case hb => ((with_reducible repeat' first | assumption | apply IsBox.set_ | (apply IsBox.new; (first | rfl | simp); done) | apply IsBox.alloc_ | apply IsBox.drew_ | refine IsBox.ext ?_ ‹Ext _ _›); done))) | with_reducible refine Kept.trans ?_ (Ext.kept ‹Ext _ _›))))
      · exact (x.mono (by first | omega | (simp only [World.size_alloc]; omega) | (simp only [World.size_drew]; omega) | (simp only [World.size_drew, World.size_alloc]; omega))).kept (by (repeat' (first | with_reducible exact Kept.refl _ | with_reducible apply Kept.alloc_r | with_reducible apply Kept.drew_r | (with_reducible apply Kept.setR6; (case hb => ((with_reducible repeat' first | assumption | apply IsBox.set_ | (apply IsBox.new; (first | rfl | simp); done) | apply IsBox.alloc_ | apply IsBox.drew_ | refine IsBox.ext ?_ ‹Ext _ _›); done))) | (with_reducible apply Kept.setA6; (case hb => ((with_reducible repeat' first | assumption | apply IsBox.set_ | (apply IsBox.new; (first | rfl | simp); done) | apply IsBox.alloc_ | apply IsBox.drew_ | refine IsBox.ext ?_ ‹Ext _ _›); done))) | (with_reducible apply Kept.setI6; (case hb => ((with_reducible repeat' first | assumption | apply IsBox.set_ | (apply IsBox.new; (first | rfl | simp); done) | apply IsBox.alloc_ | apply IsBox.drew_ | refine IsBox.ext ?_ ‹Ext _ _›); done))) | with_reducible refine Kept.trans ?_ (Ext.kept ‹Ext _ _›))))
      · exact (y.mono (by first | omega | (simp only [World.size_alloc]; omega) | (simp only [World.size_drew]; omega) | (simp only [World.size_drew, World.size_alloc]; omega))).kept (by (repeat' (first | with_reducible exact Kept.refl _ | with_reducible apply Kept.alloc_r | with_reducible apply Kept.drew_r | (with_reducible apply Kept.setR6; (case hb => ((with_reducible repeat' first | assumption | apply IsBox.set_ | (apply IsBox.new; (first | rfl | simp); done) | apply IsBox.alloc_ | apply IsBox.drew_ | refine IsBox.ext ?_ ‹Ext _ _›); done))) | (with_reducible apply Kept.setA6; (case hb => ((with_reducible repeat' first | assumption | apply IsBox.set_ | (apply IsBox.new; (first | rfl | simp); done) | apply IsBox.alloc_ | apply IsBox.drew_ | refine IsBox.ext ?_ ‹Ext _ _›); done))) | (with_reducible apply Kept.setI6; (case hb => ((with_reducible repeat' first | assumption | apply IsBox.set_ | (apply IsBox.new; (first | rfl | simp); done) | apply IsBox.alloc_ | apply IsBox.drew_ | refine IsBox.ext ?_ ‹Ext _ _›); done))) | with_reducible refine Kept.trans ?_ (Ext.kept ‹Ext _ _›))))
      · (repeat' first | (with_reducible first | exact Ext.refl _ | assumption | apply Ext.alloc_r | apply Ext.drew_r | apply Ext.drewN_r | apply Ext.set_r | exact Nat.le_refl _) | omega | with_reducible refine Ext.trans ?_ ‹Ext _ _›)
  case rest =>
    have hszw0 := HSZ.out.2
    clear ki_0 ki_1 ki_2 ki_3 ki_4 ki_5 kj_0 kj_1 kj_2 kj_3 kj_4 kj_5
    obtain ⟨bp, su, Au, cu, Lu, Bu, du, Mu, sv, Av, cv, Lv, Bv, dv, Mv, sx, Ax, cx, Lx, Bx, dx, Mx, sy, Ay, cy, Ly, By, dy, My, rfl, hbp, bxp, u, v, x, y, hxc⟩ := hcut
    obtain ⟨wp, rfl⟩ : ∃ z : World, z = wc := ⟨_, rfl⟩
    replace bxr := bxr.ext hxc
    obtain ⟨g, hg⟩ : ∃ g, g = w0.heap.size := ⟨_, rfl⟩
    rw [← hg] at u v x y
    have hgw : w.heap.size ≤ g := by omega
    have HU := Lib.hid (And.intro u (And.intro v (And.intro x y)))
    have hszp : w0.heap.size ≤ wp.heap.size := hxc.size
    clear u v x y bxi bxj hg e1 e2 e3 e4
    have kp_0 := bxp.c 0 (.bool su) rfl
    have kp_1 := bxp.c 1 (.slice Au Lu cu) rfl
    have kp_2 := bxp.c 2 (.slice Bu Mu du) rfl
    have kp_3 := bxp.c 3 (.bool sv) rfl
    have kp_4 := bxp.c 4 (.slice Av Lv cv) rfl
    have kp_5 := bxp.c 5 (.slice Bv Mv dv) rfl
    have kp_6 := bxp.c 6 (.bool sx) rfl
    have kp_7 := bxp.c 7 (.slice Ax Lx cx) rfl
    have kp_8 := bxp.c 8 (.slice Bx Mx dx) rfl
    have kp_9 := bxp.c 9 (.bool sy) rfl
    have kp_10 := bxp.c 10 (.slice Ay Ly cy) rfl
    have kp_11 := bxp.c 11 (.slice By My dy) rfl
    have HSZ := Lib.hid (And.intro True.intro (And.intro hszw0 (And.intro hszp (And.intro hbp hgw))))
    clear hszw0 hszp hbp hgw
    go_wp2_with fail
    go_cut [6, 7] (fun s6 s7 wx => PutLH wp wx #[.bool su, .slice Au Lu cu, .slice Bu Mu du] s6 s7)
    case first =>
      have HK : Hid (∀ w', Ext wp w' → Ext wp w' ∧ w'.cell? ⟨bp, 0, none⟩ = some (.bool su) ∧ w'.cell? ⟨bp, 1, none⟩ = some (.slice Au Lu cu) ∧ w'.cell? ⟨bp, 2, none⟩ = some (.slice Bu Mu du) ∧ w'.cell? ⟨bp, 3, none⟩ = some (.bool sv) ∧ w'.cell? ⟨bp, 4, none⟩ = some (.slice Av Lv cv) ∧ w'.cell? ⟨bp, 5, none⟩ = some (.slice Bv Mv dv) ∧ w'.cell? ⟨bp, 6, none⟩ = some (.bool sx) ∧ w'.cell? ⟨bp, 7, none⟩ = some (.slice Ax Lx cx) ∧ w'.cell? ⟨bp, 8, none⟩ = some (.slice Bx Mx dx) ∧ w'.cell? ⟨bp, 9, none⟩ = some (.bool sy) ∧ w'.cell? ⟨bp, 10, none⟩ = some (.slice Ay Ly cy) ∧ w'.cell? ⟨bp, 11, none⟩ = some (.slice By My dy)) := fun w' hk => ⟨hk, hk.cell kp_0, hk.cell kp_1, hk.cell kp_2, hk.cell kp_3, hk.cell kp_4, hk.cell kp_5, hk.cell kp_6, hk.cell kp_7, hk.cell kp_8, hk.cell kp_9, hk.cell kp_10, hk.cell kp_11⟩
      first
      | go_region_held3 (fun w' => Ext wp w' ∧ w'.cell? ⟨bp, 0, none⟩ = some (.bool su) ∧ w'.cell? ⟨bp, 1, none⟩ = some (.slice Au Lu cu) ∧ w'.cell? ⟨bp, 2, none⟩ = some (.slice Bu Mu du) ∧ w'.cell? ⟨bp, 3, none⟩ = some (.bool sv) ∧ w'.cell? ⟨bp, 4, none⟩ = some (.slice Av Lv cv) ∧ w'.cell? ⟨bp, 5, none⟩ = some (.slice Bv Mv dv) ∧ w'.cell? ⟨bp, 6, none⟩ = some (.bool sx) ∧ w'.cell? ⟨bp, 7, none⟩ = some (.slice Ax Lx cx) ∧ w'.cell? ⟨bp, 8, none⟩ = some (.slice Bx Mx dx) ∧ w'.cell? ⟨bp, 9, none⟩ = some (.bool sy) ∧ w'.cell? ⟨bp, 10, none⟩ = some (.slice Ay Ly cy) ∧ w'.cell? ⟨bp, 11, none⟩ = some (.slice By My dy))
          ((with_reducible refine HK.out _ ?_; (repeat' first | (with_reducible first | exact Ext.refl _ | assumption | apply Ext.alloc_r | apply Ext.drew_r | apply Ext.drewN_r | apply Ext.set_r | exact Nat.le_refl _) | omega | with_reducible refine Ext.trans ?_ ‹Ext _ _›)))
          (fail)
      | fail
      all_goals (clear HK; go_wp2_with fail; go_meet)
      all_goals
        refine PutLH.mk ?_ ?_ ?_ ?_ ?_ ?_ ?_
        · (first | exact Nat.le_refl _ | omega | (simp only [World.size_alloc, World.size_drew]; omega) | (simp; omega))
        · (first | exact Nat.le_refl _ | omega | (simp only [World.size_alloc, World.size_drew]; omega) | (simp; omega))
        · (first | omega | (simp; done) | (simp; omega))
        · (repeat' (first | with_reducible assumption | with_reducible apply BK.set12 | with_reducible apply BK.set6 | with_reducible apply BK.set3 | (with_reducible apply BK.far3; (case hne => (first | assumption | omega | (simp; done) | (simp only [World.size_alloc, World.size_drew]; omega)))) | (with_reducible apply BK.new_; (first | rfl | (simp; done))) | with_reducible apply BK.alloc_ | with_reducible apply BK.drew_ | with_reducible refine BK.ext ?_ ‹Ext _ _›))
        · (repeat' (first | with_reducible assumption | with_reducible apply BK.set12 | with_reducible apply BK.set6 | with_reducible apply BK.set3 | (with_reducible apply BK.far3; (case hne => (first | assumption | omega | (simp; done) | (simp only [World.size_alloc, World.size_drew]; omega)))) | (with_reducible apply BK.new_; (first | rfl | (simp; done))) | with_reducible apply BK.alloc_ | with_reducible apply BK.drew_ | with_reducible refine BK.ext ?_ ‹Ext _ _›))
        · (repeat' (first | with_reducible exact Kept.refl _ | with_reducible apply Kept.alloc_r | with_reducible apply Kept.drew_r | (with_reducible apply Kept.setR6; (case hb => ((with_reducible repeat' first | assumption | apply IsBox.set_ | (apply IsBox.new; (first | rfl | simp); done) | apply IsBox.alloc_ | apply IsBox.drew_ | refine IsBox.ext ?_ ‹Ext _ _›); done))) | (with_reducible apply Kept.setA6; (case hb => ((with_reducible repeat' first | assumption | apply IsBox.set_ | (apply IsBox.new; (first | rfl | simp); done) | apply IsBox.alloc_ | apply IsBox.drew_ | refine IsBox.ext ?_ ‹Ext _ _›); done))) | (with_reducible apply Kept.setI6; (case hb => ((with_reducible repeat' first | assumption | apply IsBox.set_ | (apply IsBox.new; (first | rfl | simp); done) | apply IsBox.alloc_ | apply IsBox.drew_ | refine IsBox.ext ?_ ‹Ext _ _›); done))) | with_reducible refine Kept.trans ?_ (Ext.kept ‹Ext _ _›)))
        · (repeat' first | (with_reducible first | exact Ext.refl _ | assumption | apply Ext.alloc_r | apply Ext.drew_r | apply Ext.drewN_r | apply Ext.set_r | exact Nat.le_refl _) | omega | with_reducible refine Ext.trans ?_ ‹Ext _ _›)
    case rest =>
      obtain ⟨hszw0, hszp, hbp, hgw⟩ := HSZ.out.2
      clear kp_0 kp_1 kp_2 kp_3 kp_4 kp_5 kp_6 kp_7 kp_8 kp_9 kp_10 kp_11
      obtain ⟨b6, b7, rfl, rfl, hb6, hb7, hne, bxlo, bxhi, hkc, hxd⟩ := hcut
      obtain ⟨wq, rfl⟩ : ∃ z : World, z = wc := ⟨_, rfl⟩
      have bxp2 := bxp.ext hxd
      obtain ⟨u0, v0, x0, y0⟩ := HU.out
      have u1 := u0.kept hkc
      have v1 := v0.kept hkc
      have x1 := x0.kept hkc
      have y1 := y0.kept hkc
      have HP := Lib.hid (And.intro u1 (And.intro v1 (And.intro x1 y1)))
      have HL : Hid (LH wq g (N + K) b6 b7 (mk4 minQ (q1 * q3) (q1 * q4) (q2 * q3) (q2 * q4) 0) (mk4 maxQ (q1 * q3) (q1 * q4) (q2 * q3) (q2 * q4) 0)) := ⟨su, Au, cu, Lu, Bu, du, Mu, su, Au, cu, Lu, Bu, du, Mu, bxlo, bxhi, u1, u1⟩
      clear HU u0 v0 x0 y0 u1 v1 x1 y1 bxlo bxhi
      have kp_0 := bxp2.c 0 (.bool su) rfl
      have kp_1 := bxp2.c 1 (.slice Au Lu cu) rfl
      have kp_2 := bxp2.c 2 (.slice Bu Mu du) rfl
      have kp_3 := bxp2.c 3 (.bool sv) rfl
      have kp_4 := bxp2.c 4 (.slice Av Lv cv) rfl
      have kp_5 := bxp2.c 5 (.slice Bv Mv dv) rfl
      have kp_6 := bxp2.c 6 (.bool sx) rfl
      have kp_7 := bxp2.c 7 (.slice Ax Lx cx) rfl
      have kp_8 := bxp2.c 8 (.slice Bx Mx dx) rfl
      have kp_9 := bxp2.c 9 (.bool sy) rfl
      have kp_10 := bxp2.c 10 (.slice Ay Ly cy) rfl
      have kp_11 := bxp2.c 11 (.slice By My dy) rfl
      go_wp2_with fail
      clear kp_0 kp_1 kp_2 kp_3 kp_4 kp_5 kp_6 kp_7 kp_8 kp_9 kp_10 kp_11 bxp bxp2 hbp
      go_loopg [36] 4 (fun kk iv wr => ∃ k : Nat, iv = .int .i64 k ∧ k ≤ 4 ∧ Hid (LH wr g (N + K) b6 b7 (mk4 minQ (q1 * q3) (q1 * q4) (q2 * q3) (q2 * q4) k) (mk4 maxQ (q1 * q3) (q1 * q4) (q2 * q3) (q2 * q4) k)) ∧ Kept wq wr ∧ Hid (4 - k ≤ kk) ∧ Ext wp wr)
      case atStart => exact ⟨0, rfl, by omega, HL, Kept.refl _, Nat.le_refl _, hxd⟩
      case round =>
        clear HL
        obtain ⟨k, rfl, hk4, HL, hkr, HK, hxr⟩ := hrel
        by_cases hlt : k < 4
        · go_upto_region 5 with fail
          go_cut [9, 36] from 36 to 45 (fun s9 s36 wx => s36 = Value.int .i64 (k : Int) ∧ PutE wr wx g (N + K) (nth4 (q1 * q3) (q1 * q4) (q2 * q3) (q2 * q4) k) s9)
          case first =>
            obtain ⟨u, v, x, y⟩ := HP.out
            replace u := u.kept hkr
            replace v := v.kept hkr
            replace x := x.kept hkr
            replace y := y.kept hkr
            have HQ := Lib.hid (And.intro u (And.intro v (And.intro x y)))
            clear u v x y
            have hk : k = 0 ∨ k = 1 ∨ k = 2 ∨ k = 3 := by omega
            rcases hk with rfl | rfl | rfl | rfl
            · have hix := index4_0 (.bool su) (.slice Au Lu cu) (.slice Bu Mu du) (.bool sv) (.slice Av Lv cv) (.slice Bv Mv dv) (.bool sx) (.slice Ax Lx cx) (.slice Bx Mx dx) (.bool sy) (.slice Ay Ly cy) (.slice By My dy) wr
              rw [show ((0 : Nat) : Int) = 0 from rfl]
              go_wp2_with fail
              clear hix
              go_meet
              refine ⟨by first | rfl | (simp; done), ?_⟩
              exact PutE.mk (Nat.le_refl _) (BK.new _ _ _) (HQ.out.1.ext (Ext.alloc _ _)) (Ext.alloc _ _).kept (Ext.alloc _ _)
            · have hix := index4_1 (.bool su) (.slice Au Lu cu) (.slice Bu Mu du) (.bool sv) (.slice Av Lv cv) (.slice Bv Mv dv) (.bool sx) (.slice Ax Lx cx) (.slice Bx Mx dx) (.bool sy) (.slice Ay Ly cy) (.slice By My dy) wr
              rw [show ((1 : Nat) : Int) = 1 from rfl]
              go_wp2_with fail
              clear hix
              go_meet
              refine ⟨by first | rfl | (simp; done), ?_⟩
              exact PutE.mk (Nat.le_refl _) (BK.new _ _ _) (HQ.out.2.1.ext (Ext.alloc _ _)) (Ext.alloc _ _).kept (Ext.alloc _ _)
            · have hix := index4_2 (.bool su) (.slice Au Lu cu) (.slice Bu Mu du) (.bool sv) (.slice Av Lv cv) (.slice Bv Mv dv) (.bool sx) (.slice Ax Lx cx) (.slice Bx Mx dx) (.bool sy) (.slice Ay Ly cy) (.slice By My dy) wr
              rw [show ((2 : Nat) : Int) = 2 from rfl]
              go_wp2_with fail
              clear hix
              go_meet
              refine ⟨by first | rfl | (simp; done), ?_⟩
              exact PutE.mk (Nat.le_refl _) (BK.new _ _ _) (HQ.out.2.2.1.ext (Ext.alloc _ _)) (Ext.alloc _ _).kept (Ext.alloc _ _)
            · have hix := index4_3 (.bool su) (.slice Au Lu cu) (.slice Bu Mu du) (.bool sv) (.slice Av Lv cv) (.slice Bv Mv dv) (.bool sx) (.slice Ax Lx cx) (.slice Bx Mx dx) (.bool sy) (.slice Ay Ly cy) (.slice By My dy) wr
              rw [show ((3 : Nat) : Int) = 3 from rfl]
              go_wp2_with fail
              clear hix
              go_meet
              refine ⟨by first | rfl | (simp; done), ?_⟩
              exact PutE.mk (Nat.le_refl _) (BK.new _ _ _) (HQ.out.2.2.2.ext (Ext.alloc _ _)) (Ext.alloc _ _).kept (Ext.alloc _ _)
          case rest =>
            obtain ⟨rfl, b9, se, Ae, ce, Le, Be, de, Me, rfl, hb9, bx9, z, hk9, hx9⟩ := hcut
            obtain ⟨wb, rfl⟩ : ∃ z : World, z = wc := ⟨_, rfl⟩
            obtain ⟨sl, Al, cl, Ll, Bl, dl_, Ml, sh, Ah, ch, Lh, Bh, dh, Mh, bxl, bxh, lo, hi⟩ := HL.out
            have bxl1 := bxl.ext hx9
            have bxh1 := bxh.ext hx9
            have lo1 := lo.ext hx9
            have hi1 := hi.ext hx9
            have ib6 := bxl1.isBox
            have ib7 := bxh1.isBox
            have hl6 := bxl.lt
            have hl7 := bxh.lt
            have n69 : b6 ≠ b9 := by omega
            have n79 : b7 ≠ b9 := by omega
            have HM := Lib.hid (And.intro (mk4_succ minQ (q1 * q3) (q1 * q4) (q2 * q3) (q2 * q4) hlt) (mk4_succ maxQ (q1 * q3) (q1 * q4) (q2 * q3) (q2 * q4) hlt))
            have HX := Lib.hid (And.intro hkr (And.intro hk9 (And.intro hxr hx9)))
            clear HL bxl bxh lo hi hkr hk9 hxr hx9
            go_upto_region 6 with fail
            have kl_0 := bxl1.c 0 (.bool sl) rfl
            have fl_0 := bxl1.f 0
            have kl_1 := bxl1.c 1 (.slice Al Ll cl) rfl
            have fl_1 := bxl1.f 1
            have kl_2 := bxl1.c 2 (.slice Bl Ml dl_) rfl
            have fl_2 := bxl1.f 2
            have kh_0 := bxh1.c 0 (.bool sh) rfl
            have fh_0 := bxh1.f 0
            have kh_1 := bxh1.c 1 (.slice Ah Lh ch) rfl
            have fh_1 := bxh1.f 1
            have kh_2 := bxh1.c 2 (.slice Bh Mh dh) rfl
            have fh_2 := bxh1.f 2
            have ke_0 := bx9.c 0 (.bool se) rfl
            have ke_1 := bx9.c 1 (.slice Ae Le ce) rfl
            have ke_2 := bx9.c 2 (.slice Be Me de) rfl
            have HKS : Hid (∀ w', Ext wb w' → (w'.cell? ⟨b6, 0, none⟩ = some (.bool sl) ∧ w'.cell? ⟨b6, 1, none⟩ = some (.slice Al Ll cl) ∧ w'.cell? ⟨b6, 2, none⟩ = some (.slice Bl Ml dl_) ∧ w'.cell? ⟨b7, 0, none⟩ = some (.bool sh) ∧ w'.cell? ⟨b7, 1, none⟩ = some (.slice Ah Lh ch) ∧ w'.cell? ⟨b7, 2, none⟩ = some (.slice Bh Mh dh) ∧ w'.cell? ⟨b9, 0, none⟩ = some (.bool se) ∧ w'.cell? ⟨b9, 1, none⟩ = some (.slice Ae Le ce) ∧ w'.cell? ⟨b9, 2, none⟩ = some (.slice Be Me de))) := fun w' hk => ⟨hk.cell kl_0, hk.cell kl_1, hk.cell kl_2, hk.cell kh_0, hk.cell kh_1, hk.cell kh_2, hk.cell ke_0, hk.cell ke_1, hk.cell ke_2⟩
            refine wp_region_tail 6 (fun w' => w'.cell? ⟨b6, 0, none⟩ = some (.bool sl) ∧ w'.cell? ⟨b6, 1, none⟩ = some (.slice Al Ll cl) ∧ w'.cell? ⟨b6, 2, none⟩ = some (.slice Bl Ml dl_) ∧ w'.cell? ⟨b7, 0, none⟩ = some (.bool sh) ∧ w'.cell? ⟨b7, 1, none⟩ = some (.slice Ah Lh ch) ∧ w'.cell? ⟨b7, 2, none⟩ = some (.slice Bh Mh dh) ∧ w'.cell? ⟨b9, 0, none⟩ = some (.bool se) ∧ w'.cell? ⟨b9, 1, none⟩ = some (.slice Ae Le ce) ∧ w'.cell? ⟨b9, 2, none⟩ = some (.slice Be Me de)) (by kernel_rfl) ?_ (fun hHeld inv => ?_)
            · (with_reducible refine HKS.out _ ?_; (with_reducible repeat' first | exact Ext.refl _ | assumption | apply Ext.alloc_r | apply Ext.drew_r | apply Ext.drewN_r | refine Ext.trans ?_ ‹Ext _ _›))
            refine wpAnyT_take (i := 0) (v := ?tv0) rfl (by kernel_rfl) (by kernel_rfl) (by kernel_rfl) (by kernel_rfl) inv (fun _ _ _ h => h) (Or.inl ⟨by rfl, ?th0⟩) (by assumption) (fun inv => ?tr0)
            case th0 =>
              intro w5 hSw
              (try dsimp only at hSw)
              go_simp
              (try with_reducible rfl)
            try simp only [Act.put, List.setIfInBounds_toArray]
            refine wpAnyT_take (i := 1) (v := ?tv1) rfl (by kernel_rfl) (by kernel_rfl) (by kernel_rfl) (by kernel_rfl) inv (fun _ _ _ h => h) (Or.inl ⟨by rfl, ?th1⟩) (by assumption) (fun inv => ?tr1)
            case th1 =>
              intro w5 hSw
              (try dsimp only at hSw)
              go_simp
              (try with_reducible rfl)
            try simp only [Act.put]
            refine wpAnyT_take (i := 3) (v := ?tv3) rfl (by kernel_rfl) (by kernel_rfl) (by kernel_rfl) (by kernel_rfl) inv (fun _ _ _ h => h) (Or.inl ⟨by rfl, ?th3⟩) (by assumption) (fun inv => ?tr3)
            case th3 =>
              intro w5 hSw
              (try dsimp only at hSw)
              go_simp
              (try with_reducible rfl)
            try simp only [Act.put]
            refine wpAnyT_take (i := 4) (v := ?tv4) rfl (by kernel_rfl) (by kernel_rfl) (by kernel_rfl) (by kernel_rfl) inv (fun _ _ _ h => h) (Or.inl ⟨by rfl, ?th4⟩) (by assumption) (fun inv => ?tr4)
            case th4 =>
              intro w5 hSw
              (try dsimp only at hSw)
              go_simp
              (try with_reducible rfl)
            try simp only [Act.put]
            refine wpAnyT_head (i := 2) (by kernel_rfl) rfl (by kernel_rfl) inv (fun K hK => ?_)
            clear inv
            go_simp
            (go_at_call_of 60 (#[Value.agg #[Value.bool sl, Value.slice Al Ll cl, Value.slice Bl Ml dl_], Value.agg #[Value.bool se, Value.slice Ae Le ce, Value.slice Be Me de]]); refine (lesser_r (lo1.ext (by with_reducible repeat' first | exact Ext.refl _ | assumption | apply Ext.alloc_r | apply Ext.drew_r | apply Ext.drewN_r | refine Ext.trans ?_ ‹Ext _ _›)) (z.ext (by with_reducible repeat' first | exact Ext.refl _ | assumption | apply Ext.alloc_r | apply Ext.drew_r | apply Ext.drewN_r | refine Ext.trans ?_ ‹Ext _ _›)) hN).mono ?_; rintro e w1 ⟨sm, Am, cm, Lm, Bm, dm, Mm, rfl, m, x1⟩; have ylm : Ext wb w1 := (by with_reducible repeat' first | exact Ext.refl _ | assumption | apply Ext.alloc_r | apply Ext.drew_r | apply Ext.drewN_r | refine Ext.trans ?_ ‹Ext _ _›); have klm_0 := (bxl1.ext ylm).c 0 (.bool sl) rfl; have flm_0 := (bxl1.ext ylm).f 0; have klm_1 := (bxl1.ext ylm).c 1 (.slice Al Ll cl) rfl; have flm_1 := (bxl1.ext ylm).f 1; have klm_2 := (bxl1.ext ylm).c 2 (.slice Bl Ml dl_) rfl; have flm_2 := (bxl1.ext ylm).f 2; have khm_0 := (bxh1.ext ylm).c 0 (.bool sh) rfl; have fhm_0 := (bxh1.ext ylm).f 0; have khm_1 := (bxh1.ext ylm).c 1 (.slice Ah Lh ch) rfl; have fhm_1 := (bxh1.ext ylm).f 1; have khm_2 := (bxh1.ext ylm).c 2 (.slice Bh Mh dh) rfl; have fhm_2 := (bxh1.ext ylm).f 2; have kem_0 := (bx9.ext ylm).c 0 (.bool se) rfl; have kem_1 := (bx9.ext ylm).c 1 (.slice Ae Le ce) rfl; have kem_2 := (bx9.ext ylm).c 2 (.slice Be Me de) rfl; clear ylm)
            refine hK.out _ _ ?_ (fun hHeld inv => ?_)
            · clear hK; (try dsimp only)
              (with_reducible refine HKS.out _ ?_; (with_reducible repeat' first | exact Ext.refl _ | assumption | apply Ext.alloc_r | apply Ext.drew_r | apply Ext.drewN_r | refine Ext.trans ?_ ‹Ext _ _›))
            clear hK K
            try simp only [Act.put, List.setIfInBounds_toArray, List.set_cons_zero, List.set_cons_succ]
            refine wpAnyT_head (i := 5) (by kernel_rfl) rfl (by kernel_rfl) inv (fun K hK => ?_)
            clear inv
            go_simp
            (go_at_call_of 61 (#[Value.agg #[Value.bool sh, Value.slice Ah Lh ch, Value.slice Bh Mh dh], Value.agg #[Value.bool se, Value.slice Ae Le ce, Value.slice Be Me de]]); refine (greater_r (hi1.ext (by with_reducible repeat' first | exact Ext.refl _ | assumption | apply Ext.alloc_r | apply Ext.drew_r | apply Ext.drewN_r | refine Ext.trans ?_ ‹Ext _ _›)) (z.ext (by with_reducible repeat' first | exact Ext.refl _ | assumption | apply Ext.alloc_r | apply Ext.drew_r | apply Ext.drewN_r | refine Ext.trans ?_ ‹Ext _ _›)) hN).mono ?_; rintro e w2 ⟨sn, An, cn, Ln, Bn, dn, Mn, rfl, n, x2⟩; have yln : Ext wb w2 := (by with_reducible repeat' first | exact Ext.refl _ | assumption | apply Ext.alloc_r | apply Ext.drew_r | apply Ext.drewN_r | refine Ext.trans ?_ ‹Ext _ _›); have kln_0 := (bxl1.ext yln).c 0 (.bool sl) rfl; have fln_0 := (bxl1.ext yln).f 0; have kln_1 := (bxl1.ext yln).c 1 (.slice Al Ll cl) rfl; have fln_1 := (bxl1.ext yln).f 1; have kln_2 := (bxl1.ext yln).c 2 (.slice Bl Ml dl_) rfl; have fln_2 := (bxl1.ext yln).f 2; have khn_0 := (bxh1.ext yln).c 0 (.bool sh) rfl; have fhn_0 := (bxh1.ext yln).f 0; have khn_1 := (bxh1.ext yln).c 1 (.slice Ah Lh ch) rfl; have fhn_1 := (bxh1.ext yln).f 1; have khn_2 := (bxh1.ext yln).c 2 (.slice Bh Mh dh) rfl; have fhn_2 := (bxh1.ext yln).f 2; have ken_0 := (bx9.ext yln).c 0 (.bool se) rfl; have ken_1 := (bx9.ext yln).c 1 (.slice Ae Le ce) rfl; have ken_2 := (bx9.ext yln).c 2 (.slice Be Me de) rfl; clear yln)
            refine hK.out _ _ ?_ (fun hHeld inv => ?_)
            · clear hK; (try dsimp only)
              (with_reducible refine HKS.out _ ?_; (with_reducible repeat' first | exact Ext.refl _ | assumption | apply Ext.alloc_r | apply Ext.drew_r | apply Ext.drewN_r | refine Ext.trans ?_ ‹Ext _ _›))
            clear hK K
            try simp only [Act.put, List.setIfInBounds_toArray, List.set_cons_zero, List.set_cons_succ]
            refine wpAnyT_tail (i := 6) (by kernel_rfl) rfl (by kernel_rfl) (fun K hK => ?_)
            (try clear inv)
            go_simp
            refine hK.out _ _ ?_
            clear hK K
            try simp only [Act.put, List.setIfInBounds_toArray, List.set_cons_zero, List.set_cons_succ]
            refine wpAnyT_tail (i := 7) (by kernel_rfl) rfl (by kernel_rfl) (fun K hK => ?_)
            (try clear inv)
            go_simp
            refine hK.out _ _ ?_
            clear hK K
            try simp only [Act.put, List.setIfInBounds_toArray, List.set_cons_zero, List.set_cons_succ]
            refine wpAnyT_done (by kernel_rfl) ?_ _
            clear HKS
            all_goals (go_wp2_with fail)
            all_goals
              go_roundg (4 - (k + 1))
              case measure => have h5 : 4 - k ≤ gk := HK.out; omega
              case rel =>
                refine ⟨k + 1, by go_num, by omega, ?_, ?_, Nat.le_refl _, ?_⟩
                · show LH _ _ _ _ _ _ _
                  rw [HM.out.1, HM.out.2]
                  refine LH.mk (s := sm) (A := Am) (c := cm) (L := Lm) (B := Bm) (d := dm) (M := Mm) (s' := sn) (A' := An) (c' := cn) (L' := Ln) (B' := Bn) (d' := dn) (M' := Mn) ?_ ?_ (m.kept ?_) (n.kept ?_)
                  · (repeat' (first | with_reducible assumption | with_reducible apply BK.set12 | with_reducible apply BK.set6 | with_reducible apply BK.set3 | (with_reducible apply BK.far3; (case hne => (first | assumption | omega | (simp; done) | (simp only [World.size_alloc, World.size_drew]; omega)))) | (with_reducible apply BK.new_; (first | rfl | (simp; done))) | with_reducible apply BK.alloc_ | with_reducible apply BK.drew_ | with_reducible refine BK.ext ?_ ‹Ext _ _›))
                  · (repeat' (first | with_reducible assumption | with_reducible apply BK.set12 | with_reducible apply BK.set6 | with_reducible apply BK.set3 | (with_reducible apply BK.far3; (case hne => (first | assumption | omega | (simp; done) | (simp only [World.size_alloc, World.size_drew]; omega)))) | (with_reducible apply BK.new_; (first | rfl | (simp; done))) | with_reducible apply BK.alloc_ | with_reducible apply BK.drew_ | with_reducible refine BK.ext ?_ ‹Ext _ _›))
                  · (repeat' (first | with_reducible exact Kept.refl _ | with_reducible apply Kept.alloc_r | with_reducible apply Kept.drew_r | (with_reducible apply Kept.setR6; (case hb => ((with_reducible repeat' first | assumption | apply IsBox.set_ | (apply IsBox.new; (first | rfl | simp); done) | apply IsBox.alloc_ | apply IsBox.drew_ | refine IsBox.ext ?_ ‹Ext _ _›); done))) | (with_reducible apply Kept.setA6; (case hb => ((with_reducible repeat' first | assumption | apply IsBox.set_ | (apply IsBox.new; (first | rfl | simp); done) | apply IsBox.alloc_ | apply IsBox.drew_ | refine IsBox.ext ?_ ‹Ext _ _›); done))) | (with_reducible apply Kept.setI6; (case hb => ((with_reducible repeat' first | assumption | apply IsBox.set_ | (apply IsBox.new; (first | rfl | simp); done) | apply IsBox.alloc_ | apply IsBox.drew_ | refine IsBox.ext ?_ ‹Ext _ _›); done))) | with_reducible refine Kept.trans ?_ (Ext.kept ‹Ext _ _›)))
                  · (repeat' (first | with_reducible exact Kept.refl _ | with_reducible apply Kept.alloc_r | with_reducible apply Kept.drew_r | (with_reducible apply Kept.setR6; (case hb => ((with_reducible repeat' first | assumption | apply IsBox.set_ | (apply IsBox.new; (first | rfl | simp); done) | apply IsBox.alloc_ | apply IsBox.drew_ | refine IsBox.ext ?_ ‹Ext _ _›); done))) | (with_reducible apply Kept.setA6; (case hb => ((with_reducible repeat' first | assumption | apply IsBox.set_ | (apply IsBox.new; (first | rfl | simp); done) | apply IsBox.alloc_ | apply IsBox.drew_ | refine IsBox.ext ?_ ‹Ext _ _›); done))) | (with_reducible apply Kept.setI6; (case hb => ((with_reducible repeat' first | assumption | apply IsBox.set_ | (apply IsBox.new; (first | rfl | simp); done) | apply IsBox.alloc_ | apply IsBox.drew_ | refine IsBox.ext ?_ ‹Ext _ _›); done))) | with_reducible refine Kept.trans ?_ (Ext.kept ‹Ext _ _›)))
                · refine HX.out.1.trans (HX.out.2.1.trans ?_)
                  (repeat' (first | with_reducible exact Kept.refl _ | with_reducible apply Kept.alloc_r | with_reducible apply Kept.drew_r | (with_reducible apply Kept.setR6; (case hb => ((with_reducible repeat' first | assumption | apply IsBox.set_ | (apply IsBox.new; (first | rfl | simp); done) | apply IsBox.alloc_ | apply IsBox.drew_ | refine IsBox.ext ?_ ‹Ext _ _›); done))) | (with_reducible apply Kept.setA6; (case hb => ((with_reducible repeat' first | assumption | apply IsBox.set_ | (apply IsBox.new; (first | rfl | simp); done) | apply IsBox.alloc_ | apply IsBox.drew_ | refine IsBox.ext ?_ ‹Ext _ _›); done))) | (with_reducible apply Kept.setI6; (case hb => ((with_reducible repeat' first | assumption | apply IsBox.set_ | (apply IsBox.new; (first | rfl | simp); done) | apply IsBox.alloc_ | apply IsBox.drew_ | refine IsBox.ext ?_ ‹Ext _ _›); done))) | with_reducible refine Kept.trans ?_ (Ext.kept ‹Ext _ _›)))
                · have hxz := HX.out.2.2.1.trans HX.out.2.2.2
                  (repeat' first | (with_reducible first | exact Ext.refl _ | assumption | apply Ext.alloc_r | apply Ext.drew_r | apply Ext.drewN_r | apply Ext.set_r | exact Nat.le_refl _) | omega | with_reducible refine Ext.trans ?_ ‹Ext _ _›)
        · have hk : k = 4 := by omega
          have HLO : Hid (mk4 minQ (q1 * q3) (q1 * q4) (q2 * q3) (q2 * q4) k = mlo q1 q2 q3 q4 ∧ mk4 maxQ (q1 * q3) (q1 * q4) (q2 * q3) (q2 * q4) k = mhi q1 q2 q3 q4) := by
            have e1 : ∀ x : Rat, minQ x x = x := fun x => by unfold minQ; split <;> rfl
            have e2 : ∀ x : Rat, maxQ x x = x := fun x => by unfold maxQ; split <;> rfl
            rw [hk]
            refine ⟨?_, ?_⟩
            · show minQ (minQ (minQ (minQ _ _) _) _) _ = _
              rw [e1]; rfl
            · show maxQ (maxQ (maxQ (maxQ _ _) _) _) _ = _
              rw [e2]; rfl
          obtain ⟨sl, Al, cl, Ll, Bl, dl_, Ml, sh, Ah, ch, Lh, Bh, dh, Mh, bxlo, bxhi, lo, hi⟩ := HL.out
          replace bxr := bxr.ext hxr
          have hszr := hxr.size
          have hs6 := bxlo.lt
          clear hk HL HP
          have kr_0 := bxr.c 0 (.bool false) rfl
          have fr_0 := bxr.f 0
          have kr_1 := bxr.c 1 (.slice none 0 0) rfl
          have fr_1 := bxr.f 1
          have kr_2 := bxr.c 2 (.slice none 0 0) rfl
          have fr_2 := bxr.f 2
          have kr_3 := bxr.c 3 (.bool false) rfl
          have fr_3 := bxr.f 3
          have kr_4 := bxr.c 4 (.slice none 0 0) rfl
          have fr_4 := bxr.f 4
          have kr_5 := bxr.c 5 (.slice none 0 0) rfl
          have fr_5 := bxr.f 5
          have klo_0 := bxlo.c 0 (.bool sl) rfl
          have klo_1 := bxlo.c 1 (.slice Al Ll cl) rfl
          have klo_2 := bxlo.c 2 (.slice Bl Ml dl_) rfl
          have khi_0 := bxhi.c 0 (.bool sh) rfl
          have khi_1 := bxhi.c 1 (.slice Ah Lh ch) rfl
          have khi_2 := bxhi.c 2 (.slice Bh Mh dh) rfl
          go_wp2_with fail
          have HK : Hid (∀ w', Ext wr w' → (w'.cell? ⟨b6, 0, none⟩ = some (.bool sl) ∧ w'.cell? ⟨b6, 1, none⟩ = some (.slice Al Ll cl) ∧ w'.cell? ⟨b6, 2, none⟩ = some (.slice Bl Ml dl_) ∧ w'.cell? ⟨b7, 0, none⟩ = some (.bool sh) ∧ w'.cell? ⟨b7, 1, none⟩ = some (.slice Ah Lh ch) ∧ w'.cell? ⟨b7, 2, none⟩ = some (.slice Bh Mh dh))) := fun w' hk => ⟨hk.cell klo_0, hk.cell klo_1, hk.cell klo_2, hk.cell khi_0, hk.cell khi_1, hk.cell khi_2⟩
          have nerlo : w.heap.size + 1 + 1 ≠ b6 := by omega
          have nerhi : w.heap.size + 1 + 1 ≠ b7 := by omega
          have HSr : Hid (∀ (w' : World) (i : Nat) (u : Value), (w'.cell? ⟨b6, 0, none⟩ = some (.bool sl) ∧ w'.cell? ⟨b6, 1, none⟩ = some (.slice Al Ll cl) ∧ w'.cell? ⟨b6, 2, none⟩ = some (.slice Bl Ml dl_) ∧ w'.cell? ⟨b7, 0, none⟩ = some (.bool sh) ∧ w'.cell? ⟨b7, 1, none⟩ = some (.slice Ah Lh ch) ∧ w'.cell? ⟨b7, 2, none⟩ = some (.slice Bh Mh dh)) → ((fun (w' : World) => (w'.cell? ⟨b6, 0, none⟩ = some (.bool sl) ∧ w'.cell? ⟨b6, 1, none⟩ = some (.slice Al Ll cl) ∧ w'.cell? ⟨b6, 2, none⟩ = some (.slice Bl Ml dl_) ∧ w'.cell? ⟨b7, 0, none⟩ = some (.bool sh) ∧ w'.cell? ⟨b7, 1, none⟩ = some (.slice Ah Lh ch) ∧ w'.cell? ⟨b7, 2, none⟩ = some (.slice Bh Mh dh))) (w'.setCell ⟨w.heap.size + 1 + 1, i, none⟩ u))) := fun w' i u hs => ⟨cell_far nerlo hs.1, cell_far nerlo hs.2.1, cell_far nerlo hs.2.2.1, cell_far nerhi hs.2.2.2.1, cell_far nerhi hs.2.2.2.2.1, cell_far nerhi hs.2.2.2.2.2⟩
          go_region_held3 (fun w' => w'.cell? ⟨b6, 0, none⟩ = some (.bool sl) ∧ w'.cell? ⟨b6, 1, none⟩ = some (.slice Al Ll cl) ∧ w'.cell? ⟨b6, 2, none⟩ = some (.slice Bl Ml dl_) ∧ w'.cell? ⟨b7, 0, none⟩ = some (.bool sh) ∧ w'.cell? ⟨b7, 1, none⟩ = some (.slice Ah Lh ch) ∧ w'.cell? ⟨b7, 2, none⟩ = some (.slice Bh Mh dh))
            (((repeat (first | (with_reducible refine HSr.out _ _ _ ?_))); (with_reducible refine HK.out _ ?_; (with_reducible repeat' first | exact Ext.refl _ | assumption | apply Ext.alloc_r | apply Ext.drew_r | apply Ext.drewN_r | refine Ext.trans ?_ ‹Ext _ _›))))
            (first
              | (go_at_call_of 62 (#[Value.agg #[Value.bool sh, Value.slice Ah Lh ch, Value.slice Bh Mh dh]]); have hgd := u; clear hgd; refine (rnormal_r (hi.rv.ext (by with_reducible repeat' first | exact Ext.refl _ | assumption | apply Ext.alloc_r | apply Ext.drew_r | apply Ext.drewN_r | refine Ext.trans ?_ ‹Ext _ _›)) (by omega)).mono ?_; rintro e w6 ⟨sv, Av, cv, Lv, Bv, dv, Mv, rfl, v, x6⟩; have yl : Ext wr w6 := (by with_reducible repeat' first | exact Ext.refl _ | assumption | apply Ext.alloc_r | apply Ext.drew_r | apply Ext.drewN_r | refine Ext.trans ?_ ‹Ext _ _›); have cr_0 := (bxr.ext yl).c 0 (.bool false) rfl; have gr_0 := (bxr.ext yl).f 0; have cr_1 := (bxr.ext yl).c 1 (.slice none 0 0) rfl; have gr_1 := (bxr.ext yl).f 1; have cr_2 := (bxr.ext yl).c 2 (.slice none 0 0) rfl; have gr_2 := (bxr.ext yl).f 2; have cr_3 := (bxr.ext yl).c 3 (.bool false) rfl; have gr_3 := (bxr.ext yl).f 3; have cr_4 := (bxr.ext yl).c 4 (.slice none 0 0) rfl; have gr_4 := (bxr.ext yl).f 4; have cr_5 := (bxr.ext yl).c 5 (.slice none 0 0) rfl; have gr_5 := (bxr.ext yl).f 5)
              | (go_at_call_of 62 (#[Value.agg #[Value.bool sl, Value.slice Al Ll cl, Value.slice Bl Ml dl_]]); refine (rnormal_r (lo.rv.ext (by with_reducible repeat' first | exact Ext.refl _ | assumption | apply Ext.alloc_r | apply Ext.drew_r | apply Ext.drewN_r | refine Ext.trans ?_ ‹Ext _ _›)) (by omega)).mono ?_; rintro e w5 ⟨su, Au, cu, Lu, Bu, du, Mu, rfl, u, x5⟩))
          clear kr_0 fr_0 kr_1 fr_1 kr_2 fr_2 kr_3 fr_3 kr_4 fr_4 kr_5 fr_5 klo_0 klo_1 klo_2 khi_0 khi_1 khi_2
          clear HK HSr nerlo nerhi
          clear cr_0 gr_0
          clear cr_1 gr_1
          clear cr_2 gr_2
          clear cr_3 gr_3
          clear cr_4 gr_4
          clear cr_5 gr_5
          clear yl
          have szw5 : wr.heap.size ≤ w5.heap.size := (show Ext wr w5 from (by with_reducible repeat' first | exact Ext.refl _ | assumption | apply Ext.alloc_r | apply Ext.drew_r | apply Ext.drewN_r | refine Ext.trans ?_ ‹Ext _ _›)).size
          have xhw6 : Ext wr w6 := (by with_reducible repeat' first | exact Ext.refl _ | assumption | apply Ext.alloc_r | apply Ext.drew_r | apply Ext.drewN_r | refine Ext.trans ?_ ‹Ext _ _›)
          have szw6 : wr.heap.size ≤ w6.heap.size := xhw6.size
          replace bxr := bxr.ext xhw6
          replace bxlo := bxlo.ext xhw6
          replace bxhi := bxhi.ext xhw6
          have u2 := (u.ext (show Ext _ w6 from (by with_reducible repeat' first | exact Ext.refl _ | assumption | apply Ext.alloc_r | apply Ext.drew_r | apply Ext.drewN_r | refine Ext.trans ?_ ‹Ext _ _›))).mono (show w.heap.size ≤ _ by first | omega | (simp only [World.size_drew]; omega))
          have v2 := v.mono (show w.heap.size ≤ _ by first | omega | (simp only [World.size_drew]; omega))
          clear u v
          clear lo hi
          obtain ⟨w7, hw⟩ : ∃ z : World, z = ((((((w6.setCell ⟨w.heap.size + 1 + 1, 0, none⟩ (.bool su)).setCell ⟨w.heap.size + 1 + 1, 1, none⟩ (.slice Au Lu cu)).setCell ⟨w.heap.size + 1 + 1, 2, none⟩ (.slice Bu Mu du)).setCell ⟨w.heap.size + 1 + 1, 3, none⟩ (.bool sv)).setCell ⟨w.heap.size + 1 + 1, 4, none⟩ (.slice Av Lv cv)).setCell ⟨w.heap.size + 1 + 1, 5, none⟩ (.slice Bv Mv dv)) := ⟨_, rfl⟩
          rw [← hw]
          have kw7 : Kept w6 w7 := by rw [hw]; exact (Kept.set_ (Kept.set_ (Kept.set_ (Kept.set_ (Kept.set_ (Kept.set_ (Kept.refl _) bxr.isBox plain_iv) (IsBox.set_ bxr.isBox) plain_iv) (IsBox.set_ (IsBox.set_ bxr.isBox)) plain_iv) (IsBox.set_ (IsBox.set_ (IsBox.set_ bxr.isBox))) plain_iv) (IsBox.set_ (IsBox.set_ (IsBox.set_ (IsBox.set_ bxr.isBox)))) plain_iv) (IsBox.set_ (IsBox.set_ (IsBox.set_ (IsBox.set_ (IsBox.set_ bxr.isBox))))) plain_iv)
          have nbr : BK w7 (w.heap.size + 1 + 1) 29 #[.bool su, .slice Au Lu cu, .slice Bu Mu du, .bool sv, .slice Av Lv cv, .slice Bv Mv dv] := by rw [hw]; exact (BK.set (i := 5) (u := .slice Bv Mv dv) (vs' := #[.bool su, .slice Au Lu cu, .slice Bu Mu du, .bool sv, .slice Av Lv cv, .slice Bv Mv dv]) (BK.set (i := 4) (u := .slice Av Lv cv) (vs' := #[.bool su, .slice Au Lu cu, .slice Bu Mu du, .bool sv, .slice Av Lv cv, .slice none 0 0]) (BK.set (i := 3) (u := .bool sv) (vs' := #[.bool su, .slice Au Lu cu, .slice Bu Mu du, .bool sv, .slice none 0 0, .slice none 0 0]) (BK.set (i := 2) (u := .slice Bu Mu du) (vs' := #[.bool su, .slice Au Lu cu, .slice Bu Mu du, .bool false, .slice none 0 0, .slice none 0 0]) (BK.set (i := 1) (u := .slice Au Lu cu) (vs' := #[.bool su, .slice Au Lu cu, .slice none 0 0, .bool false, .slice none 0 0, .slice none 0 0]) (BK.set (i := 0) (u := .bool su) (vs' := #[.bool su, .slice none 0 0, .slice none 0 0, .bool false, .slice none 0 0, .slice none 0 0]) bxr rfl) rfl) rfl) rfl) rfl) rfl)
          have nblo : BK w7 (b6) 27 #[.bool sl, .slice Al Ll cl, .slice Bl Ml dl_] := by rw [hw]; exact (BK.far (BK.far (BK.far (BK.far (BK.far (BK.far bxlo (show b6 ≠ w.heap.size + 1 + 1 by omega) 0 _) (show b6 ≠ w.heap.size + 1 + 1 by omega) 1 _) (show b6 ≠ w.heap.size + 1 + 1 by omega) 2 _) (show b6 ≠ w.heap.size + 1 + 1 by omega) 3 _) (show b6 ≠ w.heap.size + 1 + 1 by omega) 4 _) (show b6 ≠ w.heap.size + 1 + 1 by omega) 5 _)
          have nbhi : BK w7 (b7) 27 #[.bool sh, .slice Ah Lh ch, .slice Bh Mh dh] := by rw [hw]; exact (BK.far (BK.far (BK.far (BK.far (BK.far (BK.far bxhi (show b7 ≠ w.heap.size + 1 + 1 by omega) 0 _) (show b7 ≠ w.heap.size + 1 + 1 by omega) 1 _) (show b7 ≠ w.heap.size + 1 + 1 by omega) 2 _) (show b7 ≠ w.heap.size + 1 + 1 by omega) 3 _) (show b7 ≠ w.heap.size + 1 + 1 by omega) 4 _) (show b7 ≠ w.heap.size + 1 + 1 by omega) 5 _)
          have x7 : Ext w w7 := by rw [hw]; have hxp : Ext w w6 := (by with_reducible repeat' first | exact Ext.refl _ | assumption | apply Ext.alloc_r | apply Ext.drew_r | apply Ext.drewN_r | refine Ext.trans ?_ ‹Ext _ _›); exact (Ext.set_ (Ext.set_ (Ext.set_ (Ext.set_ (Ext.set_ (Ext.set_ hxp (show _ ≤ w.heap.size + 1 + 1 by omega)) (show _ ≤ w.heap.size + 1 + 1 by omega)) (show _ ≤ w.heap.size + 1 + 1 by omega)) (show _ ≤ w.heap.size + 1 + 1 by omega)) (show _ ≤ w.heap.size + 1 + 1 by omega)) (show _ ≤ w.heap.size + 1 + 1 by omega))
          clear bxr
          clear bxlo
          clear bxhi
          have bxr := nbr
          clear nbr
          have bxlo := nblo
          clear nblo
          have bxhi := nbhi
          clear nbhi
          have szw7 : w7.heap.size = w6.heap.size := by rw [hw]; simp
          replace u2 := (u2.ext (by with_reducible repeat' first | exact Ext.refl _ | assumption | apply Ext.alloc_r | apply Ext.drew_r | apply Ext.drewN_r | refine Ext.trans ?_ ‹Ext _ _›)).kept kw7
          replace v2 := (v2.ext (by with_reducible repeat' first | exact Ext.refl _ | assumption | apply Ext.alloc_r | apply Ext.drew_r | apply Ext.drewN_r | refine Ext.trans ?_ ‹Ext _ _›)).kept kw7
          clear hw kw7
          have HU := Lib.hid u2
          have HV := Lib.hid v2
          clear u2 v2
          have kr_0 := bxr.c 0 (.bool su) rfl
          have kr_1 := bxr.c 1 (.slice Au Lu cu) rfl
          have kr_2 := bxr.c 2 (.slice Bu Mu du) rfl
          have kr_3 := bxr.c 3 (.bool sv) rfl
          have kr_4 := bxr.c 4 (.slice Av Lv cv) rfl
          have kr_5 := bxr.c 5 (.slice Bv Mv dv) rfl
          have klo_0 := bxlo.c 0 (.bool sl) rfl
          have klo_1 := bxlo.c 1 (.slice Al Ll cl) rfl
          have klo_2 := bxlo.c 2 (.slice Bl Ml dl_) rfl
          have khi_0 := bxhi.c 0 (.bool sh) rfl
          have khi_1 := bxhi.c 1 (.slice Ah Lh ch) rfl
          have khi_2 := bxhi.c 2 (.slice Bh Mh dh) rfl
          go_wp2_with fail
          clear kr_0 kr_1 kr_2 kr_3 kr_4 kr_5 klo_0 klo_1 klo_2 khi_0 khi_1 khi_2
          have kr_0 := bxr.c 0 (.bool su) rfl
          have kr_1 := bxr.c 1 (.slice Au Lu cu) rfl
          have kr_2 := bxr.c 2 (.slice Bu Mu du) rfl
          have kr_3 := bxr.c 3 (.bool sv) rfl
          have kr_4 := bxr.c 4 (.slice Av Lv cv) rfl
          have kr_5 := bxr.c 5 (.slice Bv Mv dv) rfl
          refine bodyPost_ret (v := Value.agg #[Value.bool su, Value.slice Au Lu cu, Value.slice Bu Mu du, Value.bool sv, Value.slice Av Lv cv, Value.slice Bv Mv dv]) (by simp [results, Tryz.results28, go_sem, kr_0, kr_1, kr_2, kr_3, kr_4, kr_5]) rfl ?_
          exact ⟨_, _, _, _, _, _, _, _, _, _, _, _, _, _, rfl, by rw [← HLO.out.1]; exact HU.out, by rw [← HLO.out.2]; exact HV.out, x7⟩
end Go.Proofs.YtehhkeenjlpikaaGreat
