/- Contracts of package cylinderref02, second part: Mul, Neg, Cmp, Add. -/
import Derived.Test.YtfnmbhjifdfibaaRefF
import Derived.Test.YtfnmbhjifdfibaaIntC
namespace Go.Proofs.Ytfnmbhjifdfibaa
open Go.RowKit

theorem box_at (w : World) (vs : Array Value) (T : TypeId) :
    (∀ i v, vs[i]? = some v → (w.alloc (.cells vs T)).cell? ⟨w.heap.size, i, none⟩ = some v) ∧ (∀ i, (w.alloc (.cells vs T)).frozen? ⟨w.heap.size, i, none⟩ = false) := by
  have h := heap_alloc_new w (.cells vs T)
  refine ⟨fun i v hv => ?_, fun i => ?_⟩
  · rw [cell_of_row _ _ i _ _ (0, 0) h]; exact hv
  · simp only [World.frozen?]; rw [h]; simp

theorem sign_mul_bd {x y : Int} : -1 ≤ x.sign * y.sign ∧ x.sign * y.sign ≤ 1 := by
  rcases sign_cases x with ⟨_, a⟩ | ⟨_, a⟩ | ⟨_, a⟩ <;> rcases sign_cases y with ⟨_, b⟩ | ⟨_, b⟩ | ⟨_, b⟩ <;> rw [a, b] <;> decide
theorem sign_mul_neg {x y : Int} (h : x.sign * y.sign < 0) : x * y ≤ 0 := by
  rw [← Int.sign_mul] at h
  rcases sign_cases (x * y) with ⟨a, b⟩ | ⟨a, b⟩ | ⟨a, b⟩ <;> omega
theorem sign_mul_pos {x y : Int} (h : ¬ x.sign * y.sign < 0) : 0 ≤ x * y := by
  rw [← Int.sign_mul] at h
  rcases sign_cases (x * y) with ⟨a, b⟩ | ⟨a, b⟩ | ⟨a, b⟩ <;> omega
theorem sign_bd (x : Int) : -1 ≤ x.sign ∧ x.sign ≤ 1 := by rcases sign_cases x with ⟨_, a⟩ | ⟨_, a⟩ | ⟨_, a⟩ <;> omega
theorem cmpN_bd (a b : Nat) : -1 ≤ cmpN a b ∧ cmpN a b ≤ 1 := by unfold cmpN; split <;> (try split) <;> omega
theorem sign_cmp {x y : Int} (h : x.sign = y.sign) : x.sign * cmpN x.natAbs y.natAbs = cmpZ x y := by
  rcases sign_cases x with ⟨h1, a⟩ | ⟨h1, a⟩ | ⟨h1, a⟩ <;> rcases sign_cases y with ⟨h2, b⟩ | ⟨h2, b⟩ | ⟨h2, b⟩ <;> (try omega) <;> rw [a] <;> unfold cmpN cmpZ <;> (repeat' split) <;> omega

set_option maxRecDepth 100000 in
theorem mul_rz {w : World} {sg1 sg2 x y : Int} {A1 A2 : Option Addr} {c1 c2 L1 L2 : Nat} (h1 : RZ w sg1 A1 c1 L1 x) (h2 : RZ w sg2 A2 c2 L2 y) (hs1 : bl x.natAbs ≤ 2199023255552) (hs2 : bl y.natAbs ≤ 2199023255552) :
    Calls Try.prog 67 #[.agg #[.int .i64 sg1, .slice A1 L1 c1], .agg #[.int .i64 sg2, .slice A2 L2 c2]] w (RetRZ w (x * y)) := by
  have HC : Hid (∀ w', Ext w w' → Calls Try.prog 108 #[.slice A1 L1 c1, .slice A2 L2 c2] w' (RetB w' (x.natAbs * y.natAbs))) := fun w' hx => by
    rw [h1.len, h2.len]
    exact rmul_any (h1.bn.ext hx) (h2.bn.ext hx) hs1 hs2
  have hbd : -1 ≤ sg1 * sg2 ∧ sg1 * sg2 ≤ 1 := by rw [h1.sign, h2.sign]; exact sign_mul_bd
  have HM : Hid (∀ w' A c, BN w' A c (x.natAbs * y.natAbs) → Calls Try.prog 70 #[.bool (decide (IntKind.i64.wrap (sg1 * sg2) < 0)), .slice A (digs 2 (x.natAbs * y.natAbs)).length c] w' (RetRZ w' (x * y))) := fun w' A c h => by
    rw [IntWalk.i64_in _ (by omega)]
    refine make_rz h (Int.natAbs_mul _ _) (fun e => ?_) (fun e => ?_)
    · have := of_decide_eq_true e; rw [h1.sign, h2.sign] at this; exact sign_mul_neg this
    · have := of_decide_eq_false e; rw [h1.sign, h2.sign] at this; exact sign_mul_pos this
  clear h1 h2 hs1 hs2
  go_enter Try.func67, Try.ntmps67
  go_wp2_with fail
  obtain ⟨w0, hw0⟩ : ∃ z : World, z = (((w.alloc (.cells #[.int .i64 sg1, .slice A1 L1 c1] 36)).alloc (.cells #[.int .i64 sg2, .slice A2 L2 c2] 36)).alloc (.cells #[.int .i64 0, .slice none 0 0] 36)) := ⟨_, rfl⟩
  rw [← hw0]
  have b0 := box_at w #[.int .i64 sg1, .slice A1 L1 c1] 36
  have b1 := box_at (w.alloc (.cells #[.int .i64 sg1, .slice A1 L1 c1] 36)) #[.int .i64 sg2, .slice A2 L2 c2] 36
  have b2 := box_at ((w.alloc (.cells #[.int .i64 sg1, .slice A1 L1 c1] 36)).alloc (.cells #[.int .i64 sg2, .slice A2 L2 c2] 36)) #[.int .i64 0, .slice none 0 0] 36
  have hsz : w0.heap.size = w.heap.size + 1 + 1 + 1 := by rw [hw0]; simp
  rw [← hw0] at b2
  have y2 : Ext ((w.alloc (.cells #[.int .i64 sg1, .slice A1 L1 c1] 36)).alloc (.cells #[.int .i64 sg2, .slice A2 L2 c2] 36)) w0 := by rw [hw0]; exact Ext.alloc _ _
  have y1 : Ext (w.alloc (.cells #[.int .i64 sg1, .slice A1 L1 c1] 36)) w0 := (Ext.alloc _ _).trans y2
  have y0 : Ext w w0 := (Ext.alloc _ _).trans y1
  have x0 : Ext w w0 := y0
  have e0_0 := y1.cell (b0.1 0 (.int .i64 sg1) rfl)
  have e0_1 := y1.cell (b0.1 1 (.slice A1 L1 c1) rfl)
  have e1_0 := y2.cell (b1.1 0 (.int .i64 sg2) rfl)
  have e1_1 := y2.cell (b1.1 1 (.slice A2 L2 c2) rfl)
  have q2_0 := b2.1 0 (.int .i64 0) rfl
  have f2_0 := b2.2 0
  have q2_1 := b2.1 1 (.slice none 0 0) rfl
  have f2_1 := b2.2 1
  simp only [World.size_alloc] at e1_0 e1_1 q2_0 f2_0 q2_1 f2_1
  clear hw0 b0 b1 b2 y0 y1 y2
  go_region_held3 (fun w' => Ext w w' ∧ w'.cell? ⟨w.heap.size, 0, none⟩ = some (.int .i64 sg1) ∧ w'.cell? ⟨w.heap.size, 1, none⟩ = some (.slice A1 L1 c1) ∧ w'.cell? ⟨w.heap.size + 1, 0, none⟩ = some (.int .i64 sg2) ∧ w'.cell? ⟨w.heap.size + 1, 1, none⟩ = some (.slice A2 L2 c2))
    (first | exact ⟨x0.trans hx4, hx4.cell e0_0, hx4.cell e0_1, hx4.cell e1_0, hx4.cell e1_1⟩ | exact ⟨x0.trans hx3, hx3.cell e0_0, hx3.cell e0_1, hx3.cell e1_0, hx3.cell e1_1⟩ | exact ⟨x0.trans (Ext.drew _), e0_0, e0_1, e1_0, e1_1⟩ | exact two_set (Nat.le_refl _) (x0.trans hx4) (hx4.cell e0_0) (hx4.cell e0_1) (hx4.cell e1_0) (hx4.cell e1_1))
    (first
      | (go_at_call 108; refine (HC.out _ (x0.trans (Ext.drew _))).mono ?_; rintro e w3 ⟨A, c, rfl, ho, hx3'⟩; have hx3 := (Ext.drew w0).trans hx3')
      | (go_at_call 70; refine (HM.out _ _ _ ho).mono ?_; rintro e w4 ⟨sg', A4, c4, L4, rfl, hz, hx4'⟩; have hx4 := hx3.trans hx4'; have p1 := hx4.frozen q2_0 f2_0; have p2 := hx4.frozen q2_1 f2_1; have t1 := hx4.cell q2_0; have t2 := hx4.cell q2_1))
  obtain ⟨r5, r6, hz', hxx⟩ := fin_rz (Nat.le_trans (Nat.le_succ _) (Nat.le_succ _)) (x0.trans hx4) hz t1 t2
  go_wp2_with fail
  refine bodyPost_ret (v := .agg #[.int .i64 sg', .slice A4 L4 c4]) (by simp [results, Try.results67, go_sem, r5, r6]) rfl ?_
  exact ⟨_, _, _, _, rfl, hz', hxx⟩

theorem neg_rz {w : World} {sg x : Int} {A : Option Addr} {c L : Nat} (h : RZ w sg A c L x) :
    Calls Try.prog 29 #[.agg #[.int .i64 sg, .slice A L c]] w (RetRZ w (-x)) := by
  have hbd : -1 ≤ sg ∧ sg ≤ 1 := by rw [h.sign]; exact sign_bd x
  have HZ : Hid (∀ w', Ext w w' → RZ w' (-sg) A c L (-x)) := fun w' hx => ⟨by rw [Int.natAbs_neg]; exact h.bn.ext hx, by rw [h.sign, Int.sign_neg], by rw [Int.natAbs_neg]; exact h.len⟩
  clear h
  go_enter Try.func29, Try.ntmps29
  go_wp2_with fail
  have hx : Ext w ((w.alloc (.cells #[.int .i64 sg, .slice A L c] 36)).alloc (.cells #[.int .i64 (-sg), .slice A L c] 36)) := (Ext.alloc _ _).trans (Ext.alloc _ _)
  refine bodyPost_ret (v := .agg #[.int .i64 (-sg), .slice A L c]) (by simp [results, Try.results29, go_sem]) rfl ?_
  exact ⟨_, _, _, _, rfl, HZ.out _ hx, hx⟩

theorem rzcmp_z {w : World} {sg1 sg2 x y : Int} {A1 A2 : Option Addr} {c1 c2 L1 L2 : Nat} (h1 : RZ w sg1 A1 c1 L1 x) (h2 : RZ w sg2 A2 c2 L2 y) (hs1 : bl x.natAbs ≤ 8796093022208) (hs2 : bl y.natAbs ≤ 8796093022208) :
    Calls Try.prog 31 #[.agg #[.int .i64 sg1, .slice A1 L1 c1], .agg #[.int .i64 sg2, .slice A2 L2 c2]] w fun e w' => e = .returned (.int .i64 (cmpZ x y)) ∧ Ext w w' := by
  have HC : Hid (∀ w', Ext w w' → Calls Try.prog 79 #[.slice A1 L1 c1, .slice A2 L2 c2] w' fun e w'' => e = .returned (.int .i64 (cmpN x.natAbs y.natAbs)) ∧ Ext w' w'') := fun w' hx => by
    rw [h1.len, h2.len]
    refine (rcmp_any (h1.bn.ext hx) (h2.bn.ext hx) hs1 hs2).mono ?_
    rintro e w'' ⟨rfl, rfl⟩
    exact ⟨rfl, Ext.refl _⟩
  have hb1 := sign_bd x
  have hb2 := sign_bd y
  have hb3 := cmpN_bd x.natAbs y.natAbs
  have HL : Hid (sg1 < sg2 → cmpZ x y = -1) := fun h => by rw [h1.sign, h2.sign] at h; exact cmpZ_lt (by rcases sign_cases x with ⟨_, _⟩ | ⟨_, _⟩ | ⟨_, _⟩ <;> rcases sign_cases y with ⟨_, _⟩ | ⟨_, _⟩ | ⟨_, _⟩ <;> omega)
  have HG : Hid (sg2 < sg1 → cmpZ x y = 1) := fun h => by rw [h1.sign, h2.sign] at h; exact cmpZ_gt (by rcases sign_cases x with ⟨_, _⟩ | ⟨_, _⟩ | ⟨_, _⟩ <;> rcases sign_cases y with ⟨_, _⟩ | ⟨_, _⟩ | ⟨_, _⟩ <;> omega)
  have HE : Hid (sg1 = sg2 → sg1 * cmpN x.natAbs y.natAbs = cmpZ x y) := fun h => by rw [h1.sign, h2.sign] at h; rw [h1.sign]; exact sign_cmp h
  have hb4 : -1 ≤ sg1 * cmpN x.natAbs y.natAbs ∧ sg1 * cmpN x.natAbs y.natAbs ≤ 1 := by
    rw [h1.sign]
    rcases sign_cases x with ⟨_, a⟩ | ⟨_, a⟩ | ⟨_, a⟩ <;> rw [a] <;> omega
  clear h1 h2 hb1 hb2
  generalize cmpN x.natAbs y.natAbs = k at *
  generalize cmpZ x y = R at *
  go_enter Try.func31, Try.ntmps31
  rcases Int.lt_trichotomy sg1 sg2 with h | h | h
  · have HR : Hid (R = -1) := HL.out h
    have hne : (sg1 != sg2) = true := by simp; omega
    go_wp2_with fail
    go_ret
    exact ⟨by rw [HR.out]; rfl, (Ext.alloc _ _).trans (Ext.alloc _ _)⟩
  · have HR : Hid (sg1 * k = R) := HE.out h
    have hne : (sg1 != sg2) = false := by simp; omega
    clear h HL HG HE
    go_wp2_with fail
    obtain ⟨w0, hw0⟩ : ∃ z : World, z = ((w.alloc (.cells #[.int .i64 sg1, .slice A1 L1 c1] 36)).alloc (.cells #[.int .i64 sg2, .slice A2 L2 c2] 36)) := ⟨_, rfl⟩
    rw [← hw0]
    have b0 := box_at w #[.int .i64 sg1, .slice A1 L1 c1] 36
    have b1 := box_at (w.alloc (.cells #[.int .i64 sg1, .slice A1 L1 c1] 36)) #[.int .i64 sg2, .slice A2 L2 c2] 36
    have hsz : w0.heap.size = w.heap.size + 1 + 1 := by rw [hw0]; simp
    rw [← hw0] at b1
    have y1 : Ext (w.alloc (.cells #[.int .i64 sg1, .slice A1 L1 c1] 36)) w0 := by rw [hw0]; exact Ext.alloc _ _
    have y0 : Ext w w0 := (Ext.alloc _ _).trans y1
    have x0 : Ext w w0 := y0
    have e0_0 := y1.cell (b0.1 0 (.int .i64 sg1) rfl)
    have e0_1 := y1.cell (b0.1 1 (.slice A1 L1 c1) rfl)
    have e1_0 := b1.1 0 (.int .i64 sg2) rfl
    have e1_1 := b1.1 1 (.slice A2 L2 c2) rfl
    simp only [World.size_alloc] at e1_0 e1_1
    clear hw0 b0 b1 y0 y1
    go_region_held3 (fun w' => Ext w w' ∧ w'.cell? ⟨w.heap.size, 0, none⟩ = some (.int .i64 sg1) ∧ w'.cell? ⟨w.heap.size, 1, none⟩ = some (.slice A1 L1 c1) ∧ w'.cell? ⟨w.heap.size + 1, 0, none⟩ = some (.int .i64 sg2) ∧ w'.cell? ⟨w.heap.size + 1, 1, none⟩ = some (.slice A2 L2 c2))
      (first | exact ⟨hH.trans hy, hy.cell hc1, hy.cell hc2, hy.cell hc3, hy.cell hc4⟩ | exact ⟨x0.trans (Ext.drew _), e0_0, e0_1, e1_0, e1_1⟩)
      (first
        | (go_at_call 79; obtain ⟨hH, hc1, hc2, hc3, hc4⟩ := ‹Ext w _ ∧ _ ∧ _ ∧ _ ∧ _›; refine (HC.out _ hH).mono ?_; rintro e w3 ⟨rfl, hy⟩))
    have hWx := hH.trans hy
    go_wp2_with fail
    go_ret
    exact ⟨by rw [← HR.out]; exact ret_int (IntWalk.i64_in _ (by omega)), hWx⟩
  · have HR : Hid (R = 1) := HG.out h
    have hne : (sg1 != sg2) = true := by simp; omega
    have g1 : ¬ sg1 < sg2 := by omega
    go_wp2_with fail
    go_ret
    exact ⟨by rw [HR.out]; rfl, (Ext.alloc _ _).trans (Ext.alloc _ _)⟩

theorem add_sign {x y : Int} (h : 0 ≤ x.sign * y.sign) : (x + y).natAbs = x.natAbs + y.natAbs ∧ (x.sign + y.sign < 0 → x + y ≤ 0) ∧ (¬ x.sign + y.sign < 0 → 0 ≤ x + y) := by
  rcases sign_cases x with ⟨h1, a⟩ | ⟨h1, a⟩ | ⟨h1, a⟩ <;> rcases sign_cases y with ⟨h2, b⟩ | ⟨h2, b⟩ | ⟨h2, b⟩ <;> rw [a, b] at h ⊢ <;> omega
theorem sub_sign {x y : Int} (h : x.sign * y.sign < 0) (hl : y.natAbs ≤ x.natAbs) : (x + y).natAbs = x.natAbs - y.natAbs ∧ (x.sign < 0 → x + y ≤ 0) ∧ (¬ x.sign < 0 → 0 ≤ x + y) := by
  rcases sign_cases x with ⟨h1, a⟩ | ⟨h1, a⟩ | ⟨h1, a⟩ <;> rcases sign_cases y with ⟨h2, b⟩ | ⟨h2, b⟩ | ⟨h2, b⟩ <;> rw [a] <;> rw [a, b] at h <;> omega
set_option maxRecDepth 100000 in
theorem add_rz {w : World} {sg1 sg2 x y : Int} {A1 A2 : Option Addr} {c1 c2 L1 L2 : Nat} (h1 : RZ w sg1 A1 c1 L1 x) (h2 : RZ w sg2 A2 c2 L2 y) (hs1 : bl x.natAbs ≤ 8796093022208) (hs2 : bl y.natAbs ≤ 8796093022208) :
    Calls Try.prog 83 #[.agg #[.int .i64 sg1, .slice A1 L1 c1], .agg #[.int .i64 sg2, .slice A2 L2 c2]] w (RetRZ w (x + y)) := by
  have hbd : -1 ≤ sg1 * sg2 ∧ sg1 * sg2 ≤ 1 := by rw [h1.sign, h2.sign]; exact sign_mul_bd
  have hb1 : -1 ≤ sg1 ∧ sg1 ≤ 1 := by rw [h1.sign]; exact sign_bd x
  have hb2 : -1 ≤ sg2 ∧ sg2 ≤ 1 := by rw [h2.sign]; exact sign_bd y
  by_cases hs : 0 ≤ sg1 * sg2
  · have hf : 0 ≤ x.sign * y.sign := by rw [h1.sign, h2.sign] at hs; exact hs
    obtain ⟨n1, n2, n3⟩ := add_sign hf
    have HC : Hid (∀ w', Ext w w' → Calls Try.prog 116 #[.slice A1 L1 c1, .slice A2 L2 c2] w' (RetB w' (x.natAbs + y.natAbs))) := fun w' hx => by
      rw [h1.len, h2.len]
      exact radd_any (h1.bn.ext hx) (h2.bn.ext hx) hs1 hs2
    have HM : Hid (∀ w' A c b, b = decide (sg1 + sg2 < 0) → BN w' A c (x.natAbs + y.natAbs) → Calls Try.prog 70 #[.bool b, .slice A (digs 2 (x.natAbs + y.natAbs)).length c] w' (RetRZ w' (x + y))) := fun w' A c b hb h => by
      subst hb
      refine make_rz h n1 (fun e => ?_) (fun e => ?_)
      · have := of_decide_eq_true e; rw [h1.sign, h2.sign] at this; exact n2 this
      · have := of_decide_eq_false e; rw [h1.sign, h2.sign] at this; exact n3 this
    have hp : 0 ≤ wrap64 (sg1 * sg2) := by rw [IntWalk.wrap64_in _ (by omega)]; exact hs
    clear h1 h2 hs1 hs2 n1 n2 n3 hf hs hbd
    generalize x.natAbs + y.natAbs = n at *
    go_enter Try.func83, Try.ntmps83
    go_wp2_with fail
    obtain ⟨w0, hw0⟩ : ∃ z : World, z = (((w.alloc (.cells #[.int .i64 sg1, .slice A1 L1 c1] 36)).alloc (.cells #[.int .i64 sg2, .slice A2 L2 c2] 36)).alloc (.cells #[.int .i64 0, .slice none 0 0] 36)) := ⟨_, rfl⟩
    rw [← hw0]
    have b0 := box_at w #[.int .i64 sg1, .slice A1 L1 c1] 36
    have b1 := box_at (w.alloc (.cells #[.int .i64 sg1, .slice A1 L1 c1] 36)) #[.int .i64 sg2, .slice A2 L2 c2] 36
    have b2 := box_at ((w.alloc (.cells #[.int .i64 sg1, .slice A1 L1 c1] 36)).alloc (.cells #[.int .i64 sg2, .slice A2 L2 c2] 36)) #[.int .i64 0, .slice none 0 0] 36
    have hsz : w0.heap.size = w.heap.size + 1 + 1 + 1 := by rw [hw0]; simp
    rw [← hw0] at b2
    have y2 : Ext ((w.alloc (.cells #[.int .i64 sg1, .slice A1 L1 c1] 36)).alloc (.cells #[.int .i64 sg2, .slice A2 L2 c2] 36)) w0 := by rw [hw0]; exact Ext.alloc _ _
    have y1 : Ext (w.alloc (.cells #[.int .i64 sg1, .slice A1 L1 c1] 36)) w0 := (Ext.alloc _ _).trans y2
    have y0 : Ext w w0 := (Ext.alloc _ _).trans y1
    have x0 : Ext w w0 := y0
    have e0_0 := y1.cell (b0.1 0 (.int .i64 sg1) rfl)
    have e0_1 := y1.cell (b0.1 1 (.slice A1 L1 c1) rfl)
    have e1_0 := y2.cell (b1.1 0 (.int .i64 sg2) rfl)
    have e1_1 := y2.cell (b1.1 1 (.slice A2 L2 c2) rfl)
    have q2_0 := b2.1 0 (.int .i64 0) rfl
    have f2_0 := b2.2 0
    have q2_1 := b2.1 1 (.slice none 0 0) rfl
    have f2_1 := b2.2 1
    simp only [World.size_alloc] at e1_0 e1_1 q2_0 f2_0 q2_1 f2_1
    clear hw0 b0 b1 b2 y0 y1 y2
    go_wp2_with fail
    go_region_held3 (fun w' => Ext w w' ∧ w'.cell? ⟨w.heap.size, 0, none⟩ = some (.int .i64 sg1) ∧ w'.cell? ⟨w.heap.size, 1, none⟩ = some (.slice A1 L1 c1) ∧ w'.cell? ⟨w.heap.size + 1, 0, none⟩ = some (.int .i64 sg2) ∧ w'.cell? ⟨w.heap.size + 1, 1, none⟩ = some (.slice A2 L2 c2))
      (first | exact ⟨x0.trans hx4, hx4.cell e0_0, hx4.cell e0_1, hx4.cell e1_0, hx4.cell e1_1⟩ | exact ⟨x0.trans hx3, hx3.cell e0_0, hx3.cell e0_1, hx3.cell e1_0, hx3.cell e1_1⟩ | exact ⟨x0.trans (Ext.drew _), e0_0, e0_1, e1_0, e1_1⟩ | exact two_set (Nat.le_refl _) (x0.trans hx4) (hx4.cell e0_0) (hx4.cell e0_1) (hx4.cell e1_0) (hx4.cell e1_1))
      (first
        | (go_at_call 116; refine (HC.out _ (x0.trans (Ext.drew _))).mono ?_; rintro e w3 ⟨A, c, rfl, ho, hx3'⟩; have hx3 := (Ext.drew w0).trans hx3')
        | (go_at_call 70; refine (HM.out _ _ _ _ ?hb ho).mono ?_; (case hb => first | rfl | (rw [IntWalk.i64_in _ (by omega)])); rintro e w4 ⟨sg', A4, c4, L4, rfl, hz, hx4'⟩; have hx4 := hx3.trans hx4'; have p1 := hx4.frozen q2_0 f2_0; have p2 := hx4.frozen q2_1 f2_1; have t1 := hx4.cell q2_0; have t2 := hx4.cell q2_1))
    obtain ⟨r5, r6, hz', hxx⟩ := fin_rz (Nat.le_trans (Nat.le_succ _) (Nat.le_succ _)) (x0.trans hx4) hz t1 t2
    go_wp2_with fail
    refine bodyPost_ret (v := .agg #[.int .i64 sg', .slice A4 L4 c4]) (by simp [results, Try.results83, go_sem, r5, r6]) rfl ?_
    exact ⟨_, _, _, _, rfl, hz', hxx⟩
  · have hf : x.sign * y.sign < 0 := by rw [h1.sign, h2.sign] at hs; omega
    have HK : Hid (∀ w', Ext w w' → Calls Try.prog 79 #[.slice A1 L1 c1, .slice A2 L2 c2] w' fun e w'' => e = .returned (.int .i64 (cmpN x.natAbs y.natAbs)) ∧ Ext w' w'') := fun w' hx => by
      rw [h1.len, h2.len]
      refine (rcmp_any (h1.bn.ext hx) (h2.bn.ext hx) hs1 hs2).mono ?_
      rintro e w'' ⟨rfl, rfl⟩
      exact ⟨rfl, Ext.refl _⟩
    have hp : ¬ 0 ≤ wrap64 (sg1 * sg2) := by rw [IntWalk.wrap64_in _ (by omega)]; exact hs
    clear hs hbd
    rcases Nat.lt_or_ge x.natAbs y.natAbs with hl | hl
    · obtain ⟨n1, n2, n3⟩ := sub_sign (x := y) (y := x) (by rw [Int.mul_comm]; exact hf) (by omega)
      rw [Int.add_comm] at n1 n2 n3
      have HC : Hid (∀ w', Ext w w' → Calls Try.prog 117 #[.slice A2 L2 c2, .slice A1 L1 c1] w' (RetB w' (y.natAbs - x.natAbs))) := fun w' hx => by
        rw [h1.len, h2.len]
        exact rsub_any (h2.bn.ext hx) (h1.bn.ext hx) (by omega) hs2
      have HM : Hid (∀ w' A c, BN w' A c (y.natAbs - x.natAbs) → Calls Try.prog 70 #[.bool (decide (sg2 < 0)), .slice A (digs 2 (y.natAbs - x.natAbs)).length c] w' (RetRZ w' (x + y))) := fun w' A c h => by
        refine make_rz h n1 (fun e => ?_) (fun e => ?_)
        · have := of_decide_eq_true e; rw [h2.sign] at this; exact n2 this
        · have := of_decide_eq_false e; rw [h2.sign] at this; exact n3 this
      have hk : cmpN x.natAbs y.natAbs < 0 := by rw [cmpN_lt hl]; omega
      clear h1 h2 hs1 hs2 n1 n2 n3 hf hl
      generalize y.natAbs - x.natAbs = n at *
      generalize cmpN x.natAbs y.natAbs = k at *
      go_enter Try.func83, Try.ntmps83
      go_wp2_with fail
      obtain ⟨w0, hw0⟩ : ∃ z : World, z = (((w.alloc (.cells #[.int .i64 sg1, .slice A1 L1 c1] 36)).alloc (.cells #[.int .i64 sg2, .slice A2 L2 c2] 36)).alloc (.cells #[.int .i64 0, .slice none 0 0] 36)) := ⟨_, rfl⟩
      rw [← hw0]
      have b0 := box_at w #[.int .i64 sg1, .slice A1 L1 c1] 36
      have b1 := box_at (w.alloc (.cells #[.int .i64 sg1, .slice A1 L1 c1] 36)) #[.int .i64 sg2, .slice A2 L2 c2] 36
      have b2 := box_at ((w.alloc (.cells #[.int .i64 sg1, .slice A1 L1 c1] 36)).alloc (.cells #[.int .i64 sg2, .slice A2 L2 c2] 36)) #[.int .i64 0, .slice none 0 0] 36
      have hsz : w0.heap.size = w.heap.size + 1 + 1 + 1 := by rw [hw0]; simp
      rw [← hw0] at b2
      have y2 : Ext ((w.alloc (.cells #[.int .i64 sg1, .slice A1 L1 c1] 36)).alloc (.cells #[.int .i64 sg2, .slice A2 L2 c2] 36)) w0 := by rw [hw0]; exact Ext.alloc _ _
      have y1 : Ext (w.alloc (.cells #[.int .i64 sg1, .slice A1 L1 c1] 36)) w0 := (Ext.alloc _ _).trans y2
      have y0 : Ext w w0 := (Ext.alloc _ _).trans y1
      have x0 : Ext w w0 := y0
      have e0_0 := y1.cell (b0.1 0 (.int .i64 sg1) rfl)
      have e0_1 := y1.cell (b0.1 1 (.slice A1 L1 c1) rfl)
      have e1_0 := y2.cell (b1.1 0 (.int .i64 sg2) rfl)
      have e1_1 := y2.cell (b1.1 1 (.slice A2 L2 c2) rfl)
      have q2_0 := b2.1 0 (.int .i64 0) rfl
      have f2_0 := b2.2 0
      have q2_1 := b2.1 1 (.slice none 0 0) rfl
      have f2_1 := b2.2 1
      simp only [World.size_alloc] at e1_0 e1_1 q2_0 f2_0 q2_1 f2_1
      clear hw0 b0 b1 b2 y0 y1 y2
      go_wp2_with fail
      refine (HK.out _ x0).mono ?_
      rintro e w1 ⟨rfl, x1⟩
      have e0_0 := x1.cell e0_0
      have e0_1 := x1.cell e0_1
      have e1_0 := x1.cell e1_0
      have e1_1 := x1.cell e1_1
      have f2_0 := x1.frozen q2_0 f2_0
      have q2_0 := x1.cell q2_0
      have f2_1 := x1.frozen q2_1 f2_1
      have q2_1 := x1.cell q2_1
      have x0 := x0.trans x1
      go_wp2_with fail
      go_region_held3 (fun w' => Ext w w' ∧ w'.cell? ⟨w.heap.size, 0, none⟩ = some (.int .i64 sg1) ∧ w'.cell? ⟨w.heap.size, 1, none⟩ = some (.slice A1 L1 c1) ∧ w'.cell? ⟨w.heap.size + 1, 0, none⟩ = some (.int .i64 sg2) ∧ w'.cell? ⟨w.heap.size + 1, 1, none⟩ = some (.slice A2 L2 c2))
        (first | exact ⟨x0.trans hx4, hx4.cell e0_0, hx4.cell e0_1, hx4.cell e1_0, hx4.cell e1_1⟩ | exact ⟨x0.trans hx3, hx3.cell e0_0, hx3.cell e0_1, hx3.cell e1_0, hx3.cell e1_1⟩ | exact ⟨x0.trans (Ext.drew _), e0_0, e0_1, e1_0, e1_1⟩ | exact two_set (Nat.le_refl _) (x0.trans hx4) (hx4.cell e0_0) (hx4.cell e0_1) (hx4.cell e1_0) (hx4.cell e1_1))
        (first
          | (go_at_call 117; refine (HC.out _ (x0.trans (Ext.drew _))).mono ?_; rintro e w3 ⟨A, c, rfl, ho, hx3'⟩; have hx3 := (Ext.drew w1).trans hx3')
          | (go_at_call 70; refine (HM.out _ _ _ ho).mono ?_; rintro e w4 ⟨sg', A4, c4, L4, rfl, hz, hx4'⟩; have hx4 := hx3.trans hx4'; have p1 := hx4.frozen q2_0 f2_0; have p2 := hx4.frozen q2_1 f2_1; have t1 := hx4.cell q2_0; have t2 := hx4.cell q2_1))
      obtain ⟨r5, r6, hz', hxx⟩ := fin_rz (Nat.le_trans (Nat.le_succ _) (Nat.le_succ _)) (x0.trans hx4) hz t1 t2
      go_wp2_with fail
      refine bodyPost_ret (v := .agg #[.int .i64 sg', .slice A4 L4 c4]) (by simp [results, Try.results83, go_sem, r5, r6]) rfl ?_
      exact ⟨_, _, _, _, rfl, hz', hxx⟩
    · obtain ⟨n1, n2, n3⟩ := sub_sign (x := x) (y := y) hf (by omega)
      have HC : Hid (∀ w', Ext w w' → Calls Try.prog 117 #[.slice A1 L1 c1, .slice A2 L2 c2] w' (RetB w' (x.natAbs - y.natAbs))) := fun w' hx => by
        rw [h1.len, h2.len]
        exact rsub_any (h1.bn.ext hx) (h2.bn.ext hx) (by omega) hs1
      have HM : Hid (∀ w' A c, BN w' A c (x.natAbs - y.natAbs) → Calls Try.prog 70 #[.bool (decide (sg1 < 0)), .slice A (digs 2 (x.natAbs - y.natAbs)).length c] w' (RetRZ w' (x + y))) := fun w' A c h => by
        refine make_rz h n1 (fun e => ?_) (fun e => ?_)
        · have := of_decide_eq_true e; rw [h1.sign] at this; exact n2 this
        · have := of_decide_eq_false e; rw [h1.sign] at this; exact n3 this
      have hk : 0 ≤ cmpN x.natAbs y.natAbs := cmpN_ge hl
      clear h1 h2 hs1 hs2 n1 n2 n3 hf hl
      generalize x.natAbs - y.natAbs = n at *
      generalize cmpN x.natAbs y.natAbs = k at *
      go_enter Try.func83, Try.ntmps83
      go_wp2_with fail
      obtain ⟨w0, hw0⟩ : ∃ z : World, z = (((w.alloc (.cells #[.int .i64 sg1, .slice A1 L1 c1] 36)).alloc (.cells #[.int .i64 sg2, .slice A2 L2 c2] 36)).alloc (.cells #[.int .i64 0, .slice none 0 0] 36)) := ⟨_, rfl⟩
      rw [← hw0]
      have b0 := box_at w #[.int .i64 sg1, .slice A1 L1 c1] 36
      have b1 := box_at (w.alloc (.cells #[.int .i64 sg1, .slice A1 L1 c1] 36)) #[.int .i64 sg2, .slice A2 L2 c2] 36
      have b2 := box_at ((w.alloc (.cells #[.int .i64 sg1, .slice A1 L1 c1] 36)).alloc (.cells #[.int .i64 sg2, .slice A2 L2 c2] 36)) #[.int .i64 0, .slice none 0 0] 36
      have hsz : w0.heap.size = w.heap.size + 1 + 1 + 1 := by rw [hw0]; simp
      rw [← hw0] at b2
      have y2 : Ext ((w.alloc (.cells #[.int .i64 sg1, .slice A1 L1 c1] 36)).alloc (.cells #[.int .i64 sg2, .slice A2 L2 c2] 36)) w0 := by rw [hw0]; exact Ext.alloc _ _
      have y1 : Ext (w.alloc (.cells #[.int .i64 sg1, .slice A1 L1 c1] 36)) w0 := (Ext.alloc _ _).trans y2
      have y0 : Ext w w0 := (Ext.alloc _ _).trans y1
      have x0 : Ext w w0 := y0
      have e0_0 := y1.cell (b0.1 0 (.int .i64 sg1) rfl)
      have e0_1 := y1.cell (b0.1 1 (.slice A1 L1 c1) rfl)
      have e1_0 := y2.cell (b1.1 0 (.int .i64 sg2) rfl)
      have e1_1 := y2.cell (b1.1 1 (.slice A2 L2 c2) rfl)
      have q2_0 := b2.1 0 (.int .i64 0) rfl
      have f2_0 := b2.2 0
      have q2_1 := b2.1 1 (.slice none 0 0) rfl
      have f2_1 := b2.2 1
      simp only [World.size_alloc] at e1_0 e1_1 q2_0 f2_0 q2_1 f2_1
      clear hw0 b0 b1 b2 y0 y1 y2
      go_wp2_with fail
      refine (HK.out _ x0).mono ?_
      rintro e w1 ⟨rfl, x1⟩
      have e0_0 := x1.cell e0_0
      have e0_1 := x1.cell e0_1
      have e1_0 := x1.cell e1_0
      have e1_1 := x1.cell e1_1
      have f2_0 := x1.frozen q2_0 f2_0
      have q2_0 := x1.cell q2_0
      have f2_1 := x1.frozen q2_1 f2_1
      have q2_1 := x1.cell q2_1
      have x0 := x0.trans x1
      go_wp2_with fail
      go_region_held3 (fun w' => Ext w w' ∧ w'.cell? ⟨w.heap.size, 0, none⟩ = some (.int .i64 sg1) ∧ w'.cell? ⟨w.heap.size, 1, none⟩ = some (.slice A1 L1 c1) ∧ w'.cell? ⟨w.heap.size + 1, 0, none⟩ = some (.int .i64 sg2) ∧ w'.cell? ⟨w.heap.size + 1, 1, none⟩ = some (.slice A2 L2 c2))
        (first | exact ⟨x0.trans hx4, hx4.cell e0_0, hx4.cell e0_1, hx4.cell e1_0, hx4.cell e1_1⟩ | exact ⟨x0.trans hx3, hx3.cell e0_0, hx3.cell e0_1, hx3.cell e1_0, hx3.cell e1_1⟩ | exact ⟨x0.trans (Ext.drew _), e0_0, e0_1, e1_0, e1_1⟩ | exact two_set (Nat.le_refl _) (x0.trans hx4) (hx4.cell e0_0) (hx4.cell e0_1) (hx4.cell e1_0) (hx4.cell e1_1))
        (first
          | (go_at_call 117; refine (HC.out _ (x0.trans (Ext.drew _))).mono ?_; rintro e w3 ⟨A, c, rfl, ho, hx3'⟩; have hx3 := (Ext.drew w1).trans hx3')
          | (go_at_call 70; refine (HM.out _ _ _ ho).mono ?_; rintro e w4 ⟨sg', A4, c4, L4, rfl, hz, hx4'⟩; have hx4 := hx3.trans hx4'; have p1 := hx4.frozen q2_0 f2_0; have p2 := hx4.frozen q2_1 f2_1; have t1 := hx4.cell q2_0; have t2 := hx4.cell q2_1))
      obtain ⟨r5, r6, hz', hxx⟩ := fin_rz (Nat.le_trans (Nat.le_succ _) (Nat.le_succ _)) (x0.trans hx4) hz t1 t2
      go_wp2_with fail
      refine bodyPost_ret (v := .agg #[.int .i64 sg', .slice A4 L4 c4]) (by simp [results, Try.results83, go_sem, r5, r6]) rfl ?_
      exact ⟨_, _, _, _, rfl, hz', hxx⟩
end Go.Proofs.Ytfnmbhjifdfibaa
