/- What the laws on integers call. -/
import Derived.Test.YtcccabgeoaidjaaRefY
import Derived.Test.YtcccabgeoaidjaaIntX
import Derived.Test.YtcccabgeoaidjaaNatY
namespace Go.Proofs.Ytcccabgeoaidjaa
open Go.RowKit
theorem is_rz {w : World} {B : Nat} {s : Bool} {sg x : Int} {A A2 : Option Addr} {c c2 L L2 : Nat} (h1 : ZO w B s A c L x) (h2 : RZ w sg A2 c2 L2 x) (hs : bl x.natAbs ≤ 8796093022208) :
    Calls Try.prog 44 #[.bool s, .slice A L c, .agg #[.int .i64 sg, .slice A2 L2 c2]] w fun e w' => e = .returned (.bool true) ∧ Ext w w' := by
  have HI : Hid (∀ w', Ext w w' → Calls Try.prog 63 #[.slice A L c, .slice A2 L2 c2] w' fun e w'' => e = .returned (.bool true) ∧ Ext w' w'') := fun w' hx => by
    rw [h1.len, h2.len]
    exact is_yes (h1.no.ext hx) (h2.bn.ext hx) rfl hs
  have hb : (s == decide (sg < 0)) = true := by
    rw [h1.sign, h2.sign]
    rcases sign_cases x with ⟨a, b⟩ | ⟨a, b⟩ | ⟨a, b⟩ <;> rw [b] <;> simp <;> omega
  clear h1 h2
  go_enter Try.func44, Try.ntmps44
  go_wp2_with fail
  refine (HI.out _ (Ext.alloc _ _)).mono ?_
  rintro e w' ⟨rfl, hx⟩
  go_wp2_with fail
  go_ret
  exact ⟨rfl, (Ext.alloc _ _).trans hx⟩

theorem lof_z {w : World} {s : Bool} {A : Option Addr} {c L : Nat} {x : Int} (h : ZV w s A c L x) (hs : L ≤ 274877906944) :
    Calls Try.prog 13 #[.agg #[.bool s, .slice A L c]] w (RetRZ w x) := by
  go_enter Try.func13, Try.ntmps13
  go_wp2_with fail
  obtain ⟨w0, hw0⟩ : ∃ w0 : World, w0 = ((w.alloc (.cells #[.bool s, .slice A L c] 25)).alloc (.cells #[.int .i64 0, .slice none 0 0] 30)) := ⟨_, rfl⟩
  rw [← hw0]
  have b0 := box_new w (.bool s) (.slice A L c) 25
  have b1 := box_new (w.alloc (.cells #[.bool s, .slice A L c] 25)) (.int .i64 0) (.slice none 0 0) 30
  rw [← hw0] at b1
  have y1 : Ext (w.alloc (.cells #[.bool s, .slice A L c] 25)) w0 := by rw [hw0]; exact Ext.alloc _ _
  have y0 : Ext w w0 := (Ext.alloc _ _).trans y1
  have x0 : Ext w w0 := y0
  have e0a := y1.cell b0.1
  have e0b := y1.cell b0.2.1
  have q1 := b1.1
  have q2 := b1.2.1
  have f1 := b1.2.2 0
  have f2 := b1.2.2 1
  simp at q1 q2 f1 f2
  clear hw0 b0 b1 y0 y1
  go_wp2_with fail
  refine (of_rz (h.ext x0) hs).mono ?_
  rintro e w4 ⟨sg, A4, c4, L4, rfl, hz, hx4⟩
  have p1 := hx4.frozen q1 f1
  have p2 := hx4.frozen q2 f2
  have t1 := hx4.cell q1
  have t2 := hx4.cell q2
  obtain ⟨r5, r6, hz', hxx⟩ := fin_rz (Nat.le_succ _) (x0.trans hx4) hz t1 t2
  go_wp2_with fail
  refine bodyPost_ret (v := .agg #[.int .i64 sg, .slice A4 L4 c4]) (by simp [results, Try.results13, go_sem, r5, r6]) rfl ?_
  exact ⟨_, _, _, _, rfl, hz', hxx⟩

theorem lis_z {w : World} {B : Nat} {s : Bool} {sg x : Int} {A A2 : Option Addr} {c c2 L L2 : Nat} (h1 : ZO w B s A c L x) (h2 : RZ w sg A2 c2 L2 x) (hs : bl x.natAbs ≤ 8796093022208) :
    Calls Try.prog 16 #[.agg #[.bool s, .slice A L c], .agg #[.int .i64 sg, .slice A2 L2 c2]] w fun e w' => e = .returned (.bool true) ∧ Ext w w' := by
  have HI : Hid (∀ w', Ext w w' → Calls Try.prog 44 #[.bool s, .slice A L c, .agg #[.int .i64 sg, .slice A2 L2 c2]] w' fun e w'' => e = .returned (.bool true) ∧ Ext w' w'') := fun w' hx => is_rz (h1.ext hx) (h2.ext hx) hs
  clear h1 h2
  go_enter Try.func16, Try.ntmps16
  go_wp2_with fail
  refine (HI.out _ ((Ext.alloc _ _).trans (Ext.alloc _ _))).mono ?_
  rintro e w' ⟨rfl, hx⟩
  go_wp2_with fail
  go_ret
  exact ⟨rfl, ((Ext.alloc _ _).trans (Ext.alloc _ _)).trans hx⟩

set_option maxRecDepth 100000 in
theorem lfew_z {w : World} {n n1 n2 n3 c1 c2 c3 : Nat} {s1 s2 s3 : Bool} {A1 A2 A3 : Option Addr} (h1 : n1 ≤ 9223372036854775807) (h2 : n2 ≤ 9223372036854775807) (h3 : n3 ≤ 9223372036854775807) :
    Calls Try.prog 12 #[.int .i64 n, .agg #[.bool s1, .slice A1 n1 c1], .agg #[.bool s2, .slice A2 n2 c2], .agg #[.bool s3, .slice A3 n3 c3]] w
      fun e w' => e = .returned (.bool (decide (n1 ≤ n) && (decide (n2 ≤ n) && decide (n3 ≤ n)))) ∧ Ext w w' := by
  go_enter Try.func12, Try.ntmps12
  go_wp2_with fail
  obtain ⟨w0, hw0⟩ : ∃ w0 : World, w0 = (((w.alloc (.cells #[.bool s1, .slice A1 n1 c1] 25)).alloc (.cells #[.bool s2, .slice A2 n2 c2] 25)).alloc (.cells #[.bool s3, .slice A3 n3 c3] 25)) := ⟨_, rfl⟩
  rw [← hw0]
  have b0 := box_new w (.bool s1) (.slice A1 n1 c1) 25
  have b1 := box_new (w.alloc (.cells #[.bool s1, .slice A1 n1 c1] 25)) (.bool s2) (.slice A2 n2 c2) 25
  have b2 := box_new ((w.alloc (.cells #[.bool s1, .slice A1 n1 c1] 25)).alloc (.cells #[.bool s2, .slice A2 n2 c2] 25)) (.bool s3) (.slice A3 n3 c3) 25
  rw [← hw0] at b2
  have y2 : Ext ((w.alloc (.cells #[.bool s1, .slice A1 n1 c1] 25)).alloc (.cells #[.bool s2, .slice A2 n2 c2] 25)) w0 := by rw [hw0]; exact Ext.alloc _ _
  have y1 : Ext (w.alloc (.cells #[.bool s1, .slice A1 n1 c1] 25)) w0 := (Ext.alloc _ _).trans y2
  have y0 : Ext w w0 := (Ext.alloc _ _).trans y1
  have x0 : Ext w w0 := y0
  have e0a := y1.cell b0.1
  have e0b := y1.cell b0.2.1
  have e1a := y2.cell b1.1
  have e1b := y2.cell b1.2.1
  have e2a := b2.1
  have e2b := b2.2.1
  simp at e1a e1b e2a e2b
  have hsz : w0.heap.size = w.heap.size + 1 + 1 + 1 := by rw [hw0]; simp
  clear hw0 b0 b1 b2 y0 y1 y2
  have hF := few3 (w := w0) (n := n) (c1 := c1) (c2 := c2) (c3 := c3) (A1 := A1) (A2 := A2) (A3 := A3) h1 h2 h3
  rw [hsz] at hF
  refine hF.mono ?_
  rintro e w' ⟨rfl, hx⟩
  go_wp2_with fail
  go_ret
  exact ⟨rfl, x0.trans hx⟩

theorem lawake_z (w : World) : Calls Try.prog 11 #[] w fun e w' => e = .returned (.bool true) ∧ Ext w w' := by
  have d5 : dl 5 ≤ 1 := dl_le (by unfold B32; omega)
  have d3 : dl 3 ≤ 1 := dl_le (by unfold B32; omega)
  have d15 : digs B32 15 = [15] := digs_lit (by unfold Valid B32; simp) (by simp) (by simp [val])
  have H1 : Hid (∀ w, Calls Try.prog 28 #[.int .i64 (-5)] w (RetZ w (-5))) := fun w => of_z (by omega)
  have H2 : Hid (∀ w, Calls Try.prog 28 #[.int .i64 3] w (RetZ w 3)) := fun w => of_z (by omega)
  have H3 : Hid (∀ w s1 A1 c1 L1 s2 A2 c2 L2, ZV w s1 A1 c1 L1 (-5) → ZV w s2 A2 c2 L2 3 → Calls Try.prog 17 #[.agg #[.bool s1, .slice A1 L1 c1], .agg #[.bool s2, .slice A2 L2 c2]] w (RetZ w (-15))) := by
    intro w s1 A1 c1 L1 s2 A2 c2 L2 h1 h2
    have := mul_z h1 h2 (by show dl 5 + dl 3 ≤ _; omega) (by show min (dl 5) (dl 3) < 48; omega)
    exact this
  have HD := Lib.hid d15
  clear d5 d3 d15
  go_enter Try.func11, Try.ntmps11
  go_wp2_with fail
  refine (H1.out _).mono ?_
  rintro e w1 ⟨s1, A1, c1, L1, rfl, z1, x1⟩
  go_wp2_with fail
  refine (H2.out _).mono ?_
  rintro e w2 ⟨s2, A2, c2, L2, rfl, z2, x2⟩
  go_wp2_with fail
  refine (H3.out _ _ _ _ _ _ _ _ _ (z1.zv.ext x2) z2.zv).mono ?_
  rintro e w3 ⟨s3, A3, c3, L3, rfl, z3, x3⟩
  have hx := (x1.trans x2).trans x3
  obtain ⟨no, sg, ln⟩ := z3
  have e1 : s3 = true := by rw [sg]; rfl
  have e2 : L3 = 1 := by rw [ln]; show (digs B32 15).length = 1; rw [HD.out]; rfl
  have no' : Own w3 w2.heap.size .u32 59 A3 c3 [15] := by
    have h : Own w3 w2.heap.size .u32 59 A3 c3 (digs B32 15) := no
    rwa [HD.out] at h
  obtain ⟨g, rfl, _, hg, hc, _⟩ := no'.at_ (i := 0) (by simp)
  simp at hc
  clear sg ln no no' z1 z2
  subst e1 e2
  go_wp2_with fail
  go_ret
  exact ⟨rfl, hx.trans (Ext.alloc _ _)⟩
theorem dlz_add (x y : Int) : dl (x + y).natAbs ≤ max (dl x.natAbs) (dl y.natAbs) + 1 :=
  Nat.le_trans (dl_mono (show (x + y).natAbs ≤ x.natAbs + y.natAbs by omega)) (dl_add _ _)
theorem dlz_mul (x y : Int) : dl (x * y).natAbs ≤ dl x.natAbs + dl y.natAbs := by rw [Int.natAbs_mul]; exact dl_mul _ _
theorem same_yes {w : World} {s1 s2 : Bool} {A1 A2 : Option Addr} {c1 c2 L1 L2 : Nat} {x y : Int} (h1 : ZV w s1 A1 c1 L1 x) (h2 : ZV w s2 A2 c2 L2 y) (e : x = y) :
    Calls Try.prog 29 #[.agg #[.bool s1, .slice A1 L1 c1], .agg #[.bool s2, .slice A2 L2 c2]] w fun e w' => e = .returned (.bool true) ∧ Ext w w' := by
  subst e
  have := same_z h1 h2
  rwa [beq_self_eq_true] at this
theorem cmp_is {w : World} {s1 s2 : Bool} {A1 A2 : Option Addr} {c1 c2 L1 L2 : Nat} {x y k : Int} (h1 : ZV w s1 A1 c1 L1 x) (h2 : ZV w s2 A2 c2 L2 y) (e : cmpZ x y = k) :
    Calls Try.prog 24 #[.agg #[.bool s1, .slice A1 L1 c1], .agg #[.bool s2, .slice A2 L2 c2]] w fun e w' => e = .returned (.int .i64 k) ∧ Ext w w' := by
  subst e
  exact cmp_z h1 h2
theorem sign_is {w : World} {s1 : Bool} {A1 : Option Addr} {c1 L1 : Nat} {x k : Int} (h1 : ZV w s1 A1 c1 L1 x) (e : x.sign = k) :
    Calls Try.prog 26 #[.agg #[.bool s1, .slice A1 L1 c1]] w fun e w' => e = .returned (.int .i64 k) ∧ Ext w w' := by
  subst e
  exact sign_z h1
theorem cmpZ_bd (x y : Int) : -1 ≤ cmpZ x y ∧ cmpZ x y ≤ 1 := by unfold cmpZ; repeat' split <;> omega
theorem cmpZ_swap (x y : Int) : cmpZ y x = -cmpZ x y := by unfold cmpZ; repeat' split <;> omega
theorem cmpZ_add (x y z : Int) : cmpZ (x + z) (y + z) = cmpZ x y := by unfold cmpZ; repeat' split <;> omega
theorem cmpZ_tri {x y z : Int} (h1 : cmpZ x y ≤ 0) (h2 : cmpZ y z ≤ 0) : cmpZ x z ≤ 0 := by unfold cmpZ at *; repeat' split at * <;> omega
theorem cmpZ_sub (x y : Int) : (x - y).sign = cmpZ x y := by
  unfold cmpZ
  rcases sign_cases (x - y) with ⟨h, e⟩ | ⟨h, e⟩ | ⟨h, e⟩ <;> rw [e] <;> (repeat' split) <;> omega
theorem cmpZ_mul (x y z : Int) : cmpZ (x * z) (y * z) = cmpZ x y * z.sign := by
  rw [← cmpZ_sub, ← cmpZ_sub, ← Int.sub_mul, Int.sign_mul]
theorem bl_le_of {n k : Nat} (h : n < 2 ^ k) : bl n ≤ k := digs_len_le (by omega) h
theorem lt_of_bl {n k : Nat} (h : bl n ≤ k) : n < 2 ^ k := Nat.lt_of_lt_of_le (lt_pow_len (B := 2) (by omega) n) (Nat.pow_le_pow_right (by omega) h)
theorem words_cases (z : Int) : (bl z.natAbs < 64 ∧ (-9223372036854775808 ≤ z ∧ z ≤ 9223372036854775807)) ∨ (bl z.natAbs = 64 ∧ (-9223372036854775808 ≤ z ∧ z ≤ 9223372036854775807) ∧ z.sign < 0) ∨
    (bl z.natAbs = 64 ∧ ¬ (-9223372036854775808 ≤ z ∧ z ≤ 9223372036854775807) ∧ z.sign < 0) ∨ (bl z.natAbs = 64 ∧ ¬ (-9223372036854775808 ≤ z ∧ z ≤ 9223372036854775807) ∧ 0 ≤ z.sign) ∨
    (64 < bl z.natAbs ∧ ¬ (-9223372036854775808 ≤ z ∧ z ≤ 9223372036854775807)) := by
  have e63 : (2 : Nat) ^ 63 = 9223372036854775808 := by decide
  have e64 : (2 : Nat) ^ 64 = 18446744073709551616 := by decide
  have h1 : bl z.natAbs ≤ 63 → z.natAbs < 9223372036854775808 := fun h => by rw [← e63]; exact lt_of_bl h
  have h2 : bl z.natAbs ≤ 64 → z.natAbs < 18446744073709551616 := fun h => by rw [← e64]; exact lt_of_bl h
  have h3 : z.natAbs < 9223372036854775808 → bl z.natAbs ≤ 63 := fun h => bl_le_of (by rw [e63]; exact h)
  have h4 : z.natAbs < 18446744073709551616 → bl z.natAbs ≤ 64 := fun h => bl_le_of (by rw [e64]; exact h)
  generalize bl z.natAbs = b at *
  rcases sign_cases z with ⟨s, e⟩ | ⟨s, e⟩ | ⟨s, e⟩ <;> rw [e] <;> omega
end Go.Proofs.Ytcccabgeoaidjaa
