/- Contracts of the reference for integers; rows that are kept. -/
import Derived.Test.YtehhkeenjlpikaaGreatRefs
import Derived.Test.YtehhkeenjlpikaaGreatIntX
import Derived.Deep.DeepCutAuto
namespace Go.Proofs.YtehhkeenjlpikaaGreat
open Go.RowKit
/-- An integer of the reference: its sign and the canonical bits of its absolute value. -/
structure RZ (w : World) (sg : Int) (A : Option Addr) (c L : Nat) (x : Int) : Prop where
  bn : BN w A c x.natAbs
  sign : sg = x.sign
  len : L = (digs 2 x.natAbs).length
theorem RZ.ext {w w' : World} {sg : Int} {A : Option Addr} {c L : Nat} {x : Int} (h : RZ w sg A c L x) (hx : Ext w w') : RZ w' sg A c L x := ⟨h.bn.ext hx, h.sign, h.len⟩
/-- The call returns the integer x of the reference, and changes nothing. -/
def RetRZ (w : World) (x : Int) (e : Ending) (w' : World) : Prop := ∃ sg A c L, e = .returned (.agg #[.int .i64 sg, .slice A L c]) ∧ RZ w' sg A c L x ∧ Ext w w'

theorem cells_set {w : World} {p : Addr} {v : Value} {b : Nat} {cur : Array Value} {T : TypeId} {fr : Nat × Nat} (h : w.heap[b]? = some (.cells cur T fr)) : ∃ cur', (w.setCell p v).heap[b]? = some (.cells cur' T fr) := by
  by_cases hb : b = p.block
  · subst hb
    simp only [World.setCell, Array.getElem?_modify, h, if_true, Option.map_some]
    exact ⟨_, rfl⟩
  · exact ⟨cur, (Below.heap_setCell w p v b hb).trans h⟩
/-- Canonical bits do not lie in a cell that holds a zero and a slice: writing it leaves them as they are. -/
theorem BN.set_ {w : World} {A B : Option Addr} {c c' l' n g : Nat} {r1 r2 : Value} (h : BN w A c n) (q1 : w.cell? ⟨g, 0, none⟩ = some (.int .i64 0)) (q2 : w.cell? ⟨g, 1, none⟩ = some (.slice B l' c')) :
    BN ((w.setCell ⟨g, 0, none⟩ r1).setCell ⟨g, 1, none⟩ r2) A c n := by
  refine ⟨fun j hj => ?_, h.le, h.cap, h.nz, fun b o s e => by obtain ⟨cur, fr, hh⟩ := h.ty b o s e; obtain ⟨c1, h1⟩ := cells_set (p := ⟨g, 0, none⟩) (v := r1) hh; obtain ⟨c2, h2⟩ := cells_set (p := ⟨g, 1, none⟩) (v := r2) h1; exact ⟨c2, fr, h2⟩⟩
  obtain ⟨b, o, hA, hb, hc⟩ := h.rd j hj
  refine ⟨b, o, hA, by simpa using hb, ?_⟩
  by_cases hg : b = g
  · subst hg
    have hne1 : ∀ i (hi : i < (digs 2 n).length), o + i ≠ 1 := fun i hi he => by
      obtain ⟨b', o', hA', _, hc'⟩ := h.rd i hi
      rw [hA] at hA'
      injection hA' with hA'
      injection hA' with e1 e2
      subst e1 e2
      rw [he, q2] at hc'
      cases hc'
    have hj0 : o + j ≠ 0 := fun he => by
      have hl2 : ¬ 1 < (digs 2 n).length := fun h1 => hne1 1 h1 (by omega)
      have hjz : j = 0 := by omega
      subst hjz
      rw [he, q1] at hc
      have hd : (digs 2 n)[0] = 0 := by
        injection hc with hc
        injection hc with _ hc
        omega
      apply getLast_digs (B := 2) (by omega) n
      rw [List.getLast?_eq_getElem?, show (digs 2 n).length - 1 = 0 from by omega, List.getElem?_eq_getElem hj, hd]
    have hj1 := hne1 j hj
    have e1 : ∀ k : Nat, (⟨k, 1, none⟩ : Addr) ≠ ⟨k, o + j, none⟩ := fun k he => by injection he with _ h2; omega
    have e0 : ∀ k : Nat, (⟨k, 0, none⟩ : Addr) ≠ ⟨k, o + j, none⟩ := fun k he => by injection he with _ h2; omega
    exact ((World.cell?_setCell_other _ _ _ _ (e1 _)).trans (World.cell?_setCell_other _ _ _ _ (e0 _))).trans hc
  · have hb' : ((w.setCell ⟨g, 0, none⟩ r1).setCell ⟨g, 1, none⟩ r2).heap[b]? = w.heap[b]? :=
      (Below.heap_setCell _ ⟨g, 1, none⟩ _ b hg).trans (Below.heap_setCell _ ⟨g, 0, none⟩ _ b hg)
    exact (World.cell?_of_block hb').trans hc

theorem make_rz {w : World} {s : Bool} {A : Option Addr} {c n : Nat} {x : Int} (h : BN w A c n) (hn : x.natAbs = n) (h1 : s = true → x ≤ 0) (h2 : s = false → 0 ≤ x) :
    Calls Tryz.prog 86 #[.bool s, .slice A (digs 2 n).length c] w (RetRZ w x) := by
  have HT : Hid (∀ w', Ext w w' → Calls Tryz.prog 113 #[.slice A (digs 2 n).length c] w' fun e w'' => e = .returned (.slice A (digs 2 n).length c) ∧ w' = w'') := fun w' hx => rtrim_bn (h.ext hx)
  have hz := len_zero2 n
  by_cases h0 : n = 0
  · have hz1 : (((digs 2 n).length : Int) == 0) = true := by rw [hz]; simp [h0]
    have hx0 : x = 0 := by omega
    have HX : Hid (∀ w' : World, RZ w' 0 none 0 0 x) := fun w' => by
      subst hx0
      exact ⟨Own.bn (n := 0) (Own.none_ _ 0 _ _), rfl, rfl⟩
    clear h h1 h2 hn hx0 hz h0
    generalize (digs 2 n).length = L at *
    go_enter Tryz.func86, Tryz.ntmps86
    go_wp2_with fail
    refine (HT.out _ (Ext.alloc _ _)).mono ?_
    rintro e w' ⟨rfl, rfl⟩
    go_wp2_with fail
    refine bodyPost_ret (v := .agg #[.int .i64 0, .slice none 0 0]) (by simp [results, Tryz.results86, go_sem]) rfl ?_
    exact ⟨_, _, _, _, rfl, HX.out _, Ext.alloc _ _⟩
  · have hz1 : (((digs 2 n).length : Int) == 0) = false := by rw [hz]; simpa using h0
    cases s
    · have HX : Hid (∀ w', Ext w w' → RZ w' 1 A c (digs 2 n).length x) := fun w' hx => ⟨by rw [hn]; exact h.ext hx, (Int.sign_eq_one_of_pos (by have := h2 rfl; omega)).symm, by rw [hn]⟩
      clear h h1 h2 hn hz h0
      generalize (digs 2 n).length = L at *
      go_enter Tryz.func86, Tryz.ntmps86
      go_wp2_with fail
      refine (HT.out _ (Ext.alloc _ _)).mono ?_
      rintro e w' ⟨rfl, rfl⟩
      go_wp2_with fail
      refine bodyPost_ret (v := .agg #[.int .i64 1, .slice A L c]) (by simp [results, Tryz.results86, go_sem]) rfl ?_
      have hx : Ext w (w.alloc (.cells #[.int .i64 1, .slice A L c] 34)) := Ext.alloc _ _
      exact ⟨_, _, _, _, rfl, HX.out _ hx, hx⟩
    · have HX : Hid (∀ w', Ext w w' → RZ w' (-1) A c (digs 2 n).length x) := fun w' hx => ⟨by rw [hn]; exact h.ext hx, (Int.sign_eq_neg_one_of_neg (by have := h1 rfl; omega)).symm, by rw [hn]⟩
      clear h h1 h2 hn hz h0
      generalize (digs 2 n).length = L at *
      go_enter Tryz.func86, Tryz.ntmps86
      go_wp2_with fail
      refine (HT.out _ (Ext.alloc _ _)).mono ?_
      rintro e w' ⟨rfl, rfl⟩
      go_wp2_with fail
      refine bodyPost_ret (v := .agg #[.int .i64 (-1), .slice A L c]) (by simp [results, Tryz.results86, go_sem]) rfl ?_
      have hx : Ext w (w.alloc (.cells #[.int .i64 (-1), .slice A L c] 34)) := Ext.alloc _ _
      exact ⟨_, _, _, _, rfl, HX.out _ hx, hx⟩

/-- The end of a function that returns an integer of the reference. -/
theorem fin_rz {w w4 : World} {g c L c' l' : Nat} {A B : Option Addr} {sg x : Int} (hg : w.heap.size ≤ g) (hx : Ext w w4) (hz : RZ w4 sg A c L x)
    (q1 : w4.cell? ⟨g, 0, none⟩ = some (.int .i64 0)) (q2 : w4.cell? ⟨g, 1, none⟩ = some (.slice B l' c')) :
    ((w4.setCell ⟨g, 0, none⟩ (.int .i64 sg)).setCell ⟨g, 1, none⟩ (.slice A L c)).cell? ⟨g, 0, none⟩ = some (.int .i64 sg) ∧
      ((w4.setCell ⟨g, 0, none⟩ (.int .i64 sg)).setCell ⟨g, 1, none⟩ (.slice A L c)).cell? ⟨g, 1, none⟩ = some (.slice A L c) ∧
      RZ ((w4.setCell ⟨g, 0, none⟩ (.int .i64 sg)).setCell ⟨g, 1, none⟩ (.slice A L c)) sg A c L x ∧ Ext w ((w4.setCell ⟨g, 0, none⟩ (.int .i64 sg)).setCell ⟨g, 1, none⟩ (.slice A L c)) := by
  obtain ⟨r5, r6⟩ := res_set (r1 := .int .i64 sg) (r2 := .slice A L c) q1 q2
  exact ⟨r5, r6, ⟨hz.bn.set_ q1 q2, hz.sign, hz.len⟩, Below.setCell (Below.setCell hx (p := ⟨g, 0, none⟩) hg _) (p := ⟨g, 1, none⟩) hg _⟩

theorem of_rz {w : World} {s : Bool} {A : Option Addr} {c L : Nat} {x : Int} (h : ZV w s A c L x) (hs : L ≤ 274877906944) :
    Calls Tryz.prog 81 #[.bool s, .slice A L c] w (RetRZ w x) := by
  go_enter Tryz.func81, Tryz.ntmps81
  go_wp2_with fail
  obtain ⟨w0, hw0⟩ : ∃ w0 : World, w0 = w.alloc (.cells #[.int .i64 0, .slice none 0 0] 34) := ⟨_, rfl⟩
  rw [← hw0]
  have b0 := box_new w (.int .i64 0) (.slice none 0 0) 34
  have x0 : Ext w w0 := by rw [hw0]; exact Ext.alloc _ _
  rw [← hw0] at b0
  have q1 := b0.1
  have q2 := b0.2.1
  have f1 := b0.2.2 0
  have f2 := b0.2.2 1
  clear hw0 b0
  go_wp2_with fail
  refine (rof_v (h.nv.ext x0) hs).mono ?_
  rintro e w3 ⟨A3, c3, rfl, hb, hx3⟩
  go_wp2_with fail
  refine (make_rz hb rfl h.neg h.pos).mono ?_
  rintro e w4 ⟨sg, A4, c4, L4, rfl, hz, hx4'⟩
  have hx4 := hx3.trans hx4'
  have p1 := hx4.frozen q1 f1
  have p2 := hx4.frozen q2 f2
  have t1 := hx4.cell q1
  have t2 := hx4.cell q2
  obtain ⟨r5, r6, hz', hxx⟩ := fin_rz (Nat.le_refl _) (x0.trans hx4) hz t1 t2
  go_wp2_with fail
  refine bodyPost_ret (v := .agg #[.int .i64 sg, .slice A4 L4 c4]) (by simp [results, Tryz.results81, go_sem, r5, r6]) rfl ?_
  exact ⟨_, _, _, _, rfl, hz', hxx⟩
theorem box_at (w : World) (vs : Array Value) (T : TypeId) :
    (∀ i v, vs[i]? = some v → (w.alloc (.cells vs T)).cell? ⟨w.heap.size, i, none⟩ = some v) ∧ (∀ i, (w.alloc (.cells vs T)).frozen? ⟨w.heap.size, i, none⟩ = false) := by
  have h := heap_alloc_new w (.cells vs T)
  refine ⟨fun i v hv => ?_, fun i => ?_⟩
  · rw [cell_of_row _ _ i _ _ (0, 0) h]; exact hv
  · simp only [World.frozen?]; rw [h]; simp

theorem sign_mul_bd {x y : Int} : -1 ≤ x.sign * y.sign ∧ x.sign * y.sign ≤ 1 := by
  rcases sign_cases x with ⟨_, a⟩ | ⟨_, a⟩ | ⟨_, a⟩ <;> rcases sign_cases y with ⟨_, b⟩ | ⟨_, b⟩ | ⟨_, b⟩ <;> rw [a, b] <;> decide
theorem sign_mul_neg {x y : Int} (h : x.sign * y.sign < 0) : x * y ≤ 0 := by
  rw [← Int.sign_mul] at h
  rcases sign_cases (x * y) with ⟨a, b⟩ | ⟨a, b⟩ | ⟨a, b⟩ <;> omega
theorem sign_mul_pos {x y : Int} (h : ¬ x.sign * y.sign < 0) : 0 ≤ x * y := by
  rw [← Int.sign_mul] at h
  rcases sign_cases (x * y) with ⟨a, b⟩ | ⟨a, b⟩ | ⟨a, b⟩ <;> omega
theorem sign_bd (x : Int) : -1 ≤ x.sign ∧ x.sign ≤ 1 := by rcases sign_cases x with ⟨_, a⟩ | ⟨_, a⟩ | ⟨_, a⟩ <;> omega
theorem cmpN_bd (a b : Nat) : -1 ≤ cmpN a b ∧ cmpN a b ≤ 1 := by unfold cmpN; split <;> (try split) <;> omega
theorem sign_cmp {x y : Int} (h : x.sign = y.sign) : x.sign * cmpN x.natAbs y.natAbs = cmpZ x y := by
  rcases sign_cases x with ⟨h1, a⟩ | ⟨h1, a⟩ | ⟨h1, a⟩ <;> rcases sign_cases y with ⟨h2, b⟩ | ⟨h2, b⟩ | ⟨h2, b⟩ <;> (try omega) <;> rw [a] <;> unfold cmpN cmpZ <;> (repeat' split) <;> omega

set_option maxRecDepth 100000 in
theorem mul_rz {w : World} {sg1 sg2 x y : Int} {A1 A2 : Option Addr} {c1 c2 L1 L2 : Nat} (h1 : RZ w sg1 A1 c1 L1 x) (h2 : RZ w sg2 A2 c2 L2 y) (hs1 : bl x.natAbs ≤ 2199023255552) (hs2 : bl y.natAbs ≤ 2199023255552) :
    Calls Tryz.prog 64 #[.agg #[.int .i64 sg1, .slice A1 L1 c1], .agg #[.int .i64 sg2, .slice A2 L2 c2]] w (RetRZ w (x * y)) := by
  have HC : Hid (∀ w', Ext w w' → Calls Tryz.prog 90 #[.slice A1 L1 c1, .slice A2 L2 c2] w' (RetB w' (x.natAbs * y.natAbs))) := fun w' hx => by
    rw [h1.len, h2.len]
    exact rmul_any (h1.bn.ext hx) (h2.bn.ext hx) hs1 hs2
  have hbd : -1 ≤ sg1 * sg2 ∧ sg1 * sg2 ≤ 1 := by rw [h1.sign, h2.sign]; exact sign_mul_bd
  have HM : Hid (∀ w' A c, BN w' A c (x.natAbs * y.natAbs) → Calls Tryz.prog 86 #[.bool (decide (IntKind.i64.wrap (sg1 * sg2) < 0)), .slice A (digs 2 (x.natAbs * y.natAbs)).length c] w' (RetRZ w' (x * y))) := fun w' A c h => by
    rw [IntWalk.i64_in _ (by omega)]
    refine make_rz h (Int.natAbs_mul _ _) (fun e => ?_) (fun e => ?_)
    · have := of_decide_eq_true e; rw [h1.sign, h2.sign] at this; exact sign_mul_neg this
    · have := of_decide_eq_false e; rw [h1.sign, h2.sign] at this; exact sign_mul_pos this
  clear h1 h2 hs1 hs2
  go_enter Tryz.func64, Tryz.ntmps64
  go_wp2_with fail
  obtain ⟨w0, hw0⟩ : ∃ z : World, z = (((w.alloc (.cells #[.int .i64 sg1, .slice A1 L1 c1] 34)).alloc (.cells #[.int .i64 sg2, .slice A2 L2 c2] 34)).alloc (.cells #[.int .i64 0, .slice none 0 0] 34)) := ⟨_, rfl⟩
  rw [← hw0]
  have b0 := box_at w #[.int .i64 sg1, .slice A1 L1 c1] 34
  have b1 := box_at (w.alloc (.cells #[.int .i64 sg1, .slice A1 L1 c1] 34)) #[.int .i64 sg2, .slice A2 L2 c2] 34
  have b2 := box_at ((w.alloc (.cells #[.int .i64 sg1, .slice A1 L1 c1] 34)).alloc (.cells #[.int .i64 sg2, .slice A2 L2 c2] 34)) #[.int .i64 0, .slice none 0 0] 34
  have hsz : w0.heap.size = w.heap.size + 1 + 1 + 1 := by rw [hw0]; simp
  rw [← hw0] at b2
  have y2 : Ext ((w.alloc (.cells #[.int .i64 sg1, .slice A1 L1 c1] 34)).alloc (.cells #[.int .i64 sg2, .slice A2 L2 c2] 34)) w0 := by rw [hw0]; exact Ext.alloc _ _
  have y1 : Ext (w.alloc (.cells #[.int .i64 sg1, .slice A1 L1 c1] 34)) w0 := (Ext.alloc _ _).trans y2
  have y0 : Ext w w0 := (Ext.alloc _ _).trans y1
  have x0 : Ext w w0 := y0
  have e0_0 := y1.cell (b0.1 0 (.int .i64 sg1) rfl)
  have e0_1 := y1.cell (b0.1 1 (.slice A1 L1 c1) rfl)
  have e1_0 := y2.cell (b1.1 0 (.int .i64 sg2) rfl)
  have e1_1 := y2.cell (b1.1 1 (.slice A2 L2 c2) rfl)
  have q2_0 := b2.1 0 (.int .i64 0) rfl
  have f2_0 := b2.2 0
  have q2_1 := b2.1 1 (.slice none 0 0) rfl
  have f2_1 := b2.2 1
  simp only [World.size_alloc] at e1_0 e1_1 q2_0 f2_0 q2_1 f2_1
  clear hw0 b0 b1 b2 y0 y1 y2
  go_region_held3 (fun w' => Ext w w' ∧ w'.cell? ⟨w.heap.size, 0, none⟩ = some (.int .i64 sg1) ∧ w'.cell? ⟨w.heap.size, 1, none⟩ = some (.slice A1 L1 c1) ∧ w'.cell? ⟨w.heap.size + 1, 0, none⟩ = some (.int .i64 sg2) ∧ w'.cell? ⟨w.heap.size + 1, 1, none⟩ = some (.slice A2 L2 c2))
    (first | exact ⟨x0.trans hx4, hx4.cell e0_0, hx4.cell e0_1, hx4.cell e1_0, hx4.cell e1_1⟩ | exact ⟨x0.trans hx3, hx3.cell e0_0, hx3.cell e0_1, hx3.cell e1_0, hx3.cell e1_1⟩ | exact ⟨x0.trans (Ext.drew _), e0_0, e0_1, e1_0, e1_1⟩ | exact two_set (Nat.le_refl _) (x0.trans hx4) (hx4.cell e0_0) (hx4.cell e0_1) (hx4.cell e1_0) (hx4.cell e1_1))
    (first
      | (go_at_call 90; refine (HC.out _ (x0.trans (Ext.drew _))).mono ?_; rintro e w3 ⟨A, c, rfl, ho, hx3'⟩; have hx3 := (Ext.drew w0).trans hx3')
      | (go_at_call 86; refine (HM.out _ _ _ ho).mono ?_; rintro e w4 ⟨sg', A4, c4, L4, rfl, hz, hx4'⟩; have hx4 := hx3.trans hx4'; have p1 := hx4.frozen q2_0 f2_0; have p2 := hx4.frozen q2_1 f2_1; have t1 := hx4.cell q2_0; have t2 := hx4.cell q2_1))
  obtain ⟨r5, r6, hz', hxx⟩ := fin_rz (Nat.le_trans (Nat.le_succ _) (Nat.le_succ _)) (x0.trans hx4) hz t1 t2
  go_wp2_with fail
  refine bodyPost_ret (v := .agg #[.int .i64 sg', .slice A4 L4 c4]) (by simp [results, Tryz.results64, go_sem, r5, r6]) rfl ?_
  exact ⟨_, _, _, _, rfl, hz', hxx⟩

theorem neg_rz {w : World} {sg x : Int} {A : Option Addr} {c L : Nat} (h : RZ w sg A c L x) :
    Calls Tryz.prog 65 #[.agg #[.int .i64 sg, .slice A L c]] w (RetRZ w (-x)) := by
  have hbd : -1 ≤ sg ∧ sg ≤ 1 := by rw [h.sign]; exact sign_bd x
  have HZ : Hid (∀ w', Ext w w' → RZ w' (-sg) A c L (-x)) := fun w' hx => ⟨by rw [Int.natAbs_neg]; exact h.bn.ext hx, by rw [h.sign, Int.sign_neg], by rw [Int.natAbs_neg]; exact h.len⟩
  clear h
  go_enter Tryz.func65, Tryz.ntmps65
  go_wp2_with fail
  have hx : Ext w ((w.alloc (.cells #[.int .i64 sg, .slice A L c] 34)).alloc (.cells #[.int .i64 (-sg), .slice A L c] 34)) := (Ext.alloc _ _).trans (Ext.alloc _ _)
  refine bodyPost_ret (v := .agg #[.int .i64 (-sg), .slice A L c]) (by simp [results, Tryz.results65, go_sem]) rfl ?_
  exact ⟨_, _, _, _, rfl, HZ.out _ hx, hx⟩

theorem rzcmp_z {w : World} {sg1 sg2 x y : Int} {A1 A2 : Option Addr} {c1 c2 L1 L2 : Nat} (h1 : RZ w sg1 A1 c1 L1 x) (h2 : RZ w sg2 A2 c2 L2 y) (hs1 : bl x.natAbs ≤ 8796093022208) (hs2 : bl y.natAbs ≤ 8796093022208) :
    Calls Tryz.prog 69 #[.agg #[.int .i64 sg1, .slice A1 L1 c1], .agg #[.int .i64 sg2, .slice A2 L2 c2]] w fun e w' => e = .returned (.int .i64 (cmpZ x y)) ∧ Ext w w' := by
  have HC : Hid (∀ w', Ext w w' → Calls Tryz.prog 88 #[.slice A1 L1 c1, .slice A2 L2 c2] w' fun e w'' => e = .returned (.int .i64 (cmpN x.natAbs y.natAbs)) ∧ Ext w' w'') := fun w' hx => by
    rw [h1.len, h2.len]
    refine (rcmp_any (h1.bn.ext hx) (h2.bn.ext hx) hs1 hs2).mono ?_
    rintro e w'' ⟨rfl, rfl⟩
    exact ⟨rfl, Ext.refl _⟩
  have hb1 := sign_bd x
  have hb2 := sign_bd y
  have hb3 := cmpN_bd x.natAbs y.natAbs
  have HL : Hid (sg1 < sg2 → cmpZ x y = -1) := fun h => by rw [h1.sign, h2.sign] at h; exact cmpZ_lt (by rcases sign_cases x with ⟨_, _⟩ | ⟨_, _⟩ | ⟨_, _⟩ <;> rcases sign_cases y with ⟨_, _⟩ | ⟨_, _⟩ | ⟨_, _⟩ <;> omega)
  have HG : Hid (sg2 < sg1 → cmpZ x y = 1) := fun h => by rw [h1.sign, h2.sign] at h; exact cmpZ_gt (by rcases sign_cases x with ⟨_, _⟩ | ⟨_, _⟩ | ⟨_, _⟩ <;> rcases sign_cases y with ⟨_, _⟩ | ⟨_, _⟩ | ⟨_, _⟩ <;> omega)
  have HE : Hid (sg1 = sg2 → sg1 * cmpN x.natAbs y.natAbs = cmpZ x y) := fun h => by rw [h1.sign, h2.sign] at h; rw [h1.sign]; exact sign_cmp h
  have hb4 : -1 ≤ sg1 * cmpN x.natAbs y.natAbs ∧ sg1 * cmpN x.natAbs y.natAbs ≤ 1 := by
    rw [h1.sign]
    rcases sign_cases x with ⟨_, a⟩ | ⟨_, a⟩ | ⟨_, a⟩ <;> rw [a] <;> omega
  clear h1 h2 hb1 hb2
  generalize cmpN x.natAbs y.natAbs = k at *
  generalize cmpZ x y = R at *
  go_enter Tryz.func69, Tryz.ntmps69
  rcases Int.lt_trichotomy sg1 sg2 with h | h | h
  · have HR : Hid (R = -1) := HL.out h
    have hne : (sg1 != sg2) = true := by simp; omega
    go_wp2_with fail
    go_ret
    exact ⟨by rw [HR.out]; rfl, (Ext.alloc _ _).trans (Ext.alloc _ _)⟩
  · have HR : Hid (sg1 * k = R) := HE.out h
    have hne : (sg1 != sg2) = false := by simp; omega
    clear h HL HG HE
    go_wp2_with fail
    obtain ⟨w0, hw0⟩ : ∃ z : World, z = ((w.alloc (.cells #[.int .i64 sg1, .slice A1 L1 c1] 34)).alloc (.cells #[.int .i64 sg2, .slice A2 L2 c2] 34)) := ⟨_, rfl⟩
    rw [← hw0]
    have b0 := box_at w #[.int .i64 sg1, .slice A1 L1 c1] 34
    have b1 := box_at (w.alloc (.cells #[.int .i64 sg1, .slice A1 L1 c1] 34)) #[.int .i64 sg2, .slice A2 L2 c2] 34
    have hsz : w0.heap.size = w.heap.size + 1 + 1 := by rw [hw0]; simp
    rw [← hw0] at b1
    have y1 : Ext (w.alloc (.cells #[.int .i64 sg1, .slice A1 L1 c1] 34)) w0 := by rw [hw0]; exact Ext.alloc _ _
    have y0 : Ext w w0 := (Ext.alloc _ _).trans y1
    have x0 : Ext w w0 := y0
    have e0_0 := y1.cell (b0.1 0 (.int .i64 sg1) rfl)
    have e0_1 := y1.cell (b0.1 1 (.slice A1 L1 c1) rfl)
    have e1_0 := b1.1 0 (.int .i64 sg2) rfl
    have e1_1 := b1.1 1 (.slice A2 L2 c2) rfl
    simp only [World.size_alloc] at e1_0 e1_1
    clear hw0 b0 b1 y0 y1
    go_region_held3 (fun w' => Ext w w' ∧ w'.cell? ⟨w.heap.size, 0, none⟩ = some (.int .i64 sg1) ∧ w'.cell? ⟨w.heap.size, 1, none⟩ = some (.slice A1 L1 c1) ∧ w'.cell? ⟨w.heap.size + 1, 0, none⟩ = some (.int .i64 sg2) ∧ w'.cell? ⟨w.heap.size + 1, 1, none⟩ = some (.slice A2 L2 c2))
      (first | exact ⟨hH.trans hy, hy.cell hc1, hy.cell hc2, hy.cell hc3, hy.cell hc4⟩ | exact ⟨x0.trans (Ext.drew _), e0_0, e0_1, e1_0, e1_1⟩)
      (first
        | (go_at_call 88; obtain ⟨hH, hc1, hc2, hc3, hc4⟩ := ‹Ext w _ ∧ _ ∧ _ ∧ _ ∧ _›; refine (HC.out _ hH).mono ?_; rintro e w3 ⟨rfl, hy⟩))
    have hWx := hH.trans hy
    go_wp2_with fail
    go_ret
    exact ⟨by rw [← HR.out]; exact ret_int (IntWalk.i64_in _ (by omega)), hWx⟩
  · have HR : Hid (R = 1) := HG.out h
    have hne : (sg1 != sg2) = true := by simp; omega
    have g1 : ¬ sg1 < sg2 := by omega
    go_wp2_with fail
    go_ret
    exact ⟨by rw [HR.out]; rfl, (Ext.alloc _ _).trans (Ext.alloc _ _)⟩

theorem add_sign {x y : Int} (h : 0 ≤ x.sign * y.sign) : (x + y).natAbs = x.natAbs + y.natAbs ∧ (x.sign + y.sign < 0 → x + y ≤ 0) ∧ (¬ x.sign + y.sign < 0 → 0 ≤ x + y) := by
  rcases sign_cases x with ⟨h1, a⟩ | ⟨h1, a⟩ | ⟨h1, a⟩ <;> rcases sign_cases y with ⟨h2, b⟩ | ⟨h2, b⟩ | ⟨h2, b⟩ <;> rw [a, b] at h ⊢ <;> omega
theorem sub_sign {x y : Int} (h : x.sign * y.sign < 0) (hl : y.natAbs ≤ x.natAbs) : (x + y).natAbs = x.natAbs - y.natAbs ∧ (x.sign < 0 → x + y ≤ 0) ∧ (¬ x.sign < 0 → 0 ≤ x + y) := by
  rcases sign_cases x with ⟨h1, a⟩ | ⟨h1, a⟩ | ⟨h1, a⟩ <;> rcases sign_cases y with ⟨h2, b⟩ | ⟨h2, b⟩ | ⟨h2, b⟩ <;> rw [a] <;> rw [a, b] at h <;> omega
set_option maxRecDepth 100000 in
theorem add_rz {w : World} {sg1 sg2 x y : Int} {A1 A2 : Option Addr} {c1 c2 L1 L2 : Nat} (h1 : RZ w sg1 A1 c1 L1 x) (h2 : RZ w sg2 A2 c2 L2 y) (hs1 : bl x.natAbs ≤ 8796093022208) (hs2 : bl y.natAbs ≤ 8796093022208) :
    Calls Tryz.prog 63 #[.agg #[.int .i64 sg1, .slice A1 L1 c1], .agg #[.int .i64 sg2, .slice A2 L2 c2]] w (RetRZ w (x + y)) := by
  have hbd : -1 ≤ sg1 * sg2 ∧ sg1 * sg2 ≤ 1 := by rw [h1.sign, h2.sign]; exact sign_mul_bd
  have hb1 : -1 ≤ sg1 ∧ sg1 ≤ 1 := by rw [h1.sign]; exact sign_bd x
  have hb2 : -1 ≤ sg2 ∧ sg2 ≤ 1 := by rw [h2.sign]; exact sign_bd y
  by_cases hs : 0 ≤ sg1 * sg2
  · have hf : 0 ≤ x.sign * y.sign := by rw [h1.sign, h2.sign] at hs; exact hs
    obtain ⟨n1, n2, n3⟩ := add_sign hf
    have HC : Hid (∀ w', Ext w w' → Calls Tryz.prog 87 #[.slice A1 L1 c1, .slice A2 L2 c2] w' (RetB w' (x.natAbs + y.natAbs))) := fun w' hx => by
      rw [h1.len, h2.len]
      exact radd_any (h1.bn.ext hx) (h2.bn.ext hx) hs1 hs2
    have HM : Hid (∀ w' A c b, b = decide (sg1 + sg2 < 0) → BN w' A c (x.natAbs + y.natAbs) → Calls Tryz.prog 86 #[.bool b, .slice A (digs 2 (x.natAbs + y.natAbs)).length c] w' (RetRZ w' (x + y))) := fun w' A c b hb h => by
      subst hb
      refine make_rz h n1 (fun e => ?_) (fun e => ?_)
      · have := of_decide_eq_true e; rw [h1.sign, h2.sign] at this; exact n2 this
      · have := of_decide_eq_false e; rw [h1.sign, h2.sign] at this; exact n3 this
    have hp : 0 ≤ wrap64 (sg1 * sg2) := by rw [IntWalk.wrap64_in _ (by omega)]; exact hs
    clear h1 h2 hs1 hs2 n1 n2 n3 hf hs hbd
    generalize x.natAbs + y.natAbs = n at *
    go_enter Tryz.func63, Tryz.ntmps63
    go_wp2_with fail
    obtain ⟨w0, hw0⟩ : ∃ z : World, z = (((w.alloc (.cells #[.int .i64 sg1, .slice A1 L1 c1] 34)).alloc (.cells #[.int .i64 sg2, .slice A2 L2 c2] 34)).alloc (.cells #[.int .i64 0, .slice none 0 0] 34)) := ⟨_, rfl⟩
    rw [← hw0]
    have b0 := box_at w #[.int .i64 sg1, .slice A1 L1 c1] 34
    have b1 := box_at (w.alloc (.cells #[.int .i64 sg1, .slice A1 L1 c1] 34)) #[.int .i64 sg2, .slice A2 L2 c2] 34
    have b2 := box_at ((w.alloc (.cells #[.int .i64 sg1, .slice A1 L1 c1] 34)).alloc (.cells #[.int .i64 sg2, .slice A2 L2 c2] 34)) #[.int .i64 0, .slice none 0 0] 34
    have hsz : w0.heap.size = w.heap.size + 1 + 1 + 1 := by rw [hw0]; simp
    rw [← hw0] at b2
    have y2 : Ext ((w.alloc (.cells #[.int .i64 sg1, .slice A1 L1 c1] 34)).alloc (.cells #[.int .i64 sg2, .slice A2 L2 c2] 34)) w0 := by rw [hw0]; exact Ext.alloc _ _
    have y1 : Ext (w.alloc (.cells #[.int .i64 sg1, .slice A1 L1 c1] 34)) w0 := (Ext.alloc _ _).trans y2
    have y0 : Ext w w0 := (Ext.alloc _ _).trans y1
    have x0 : Ext w w0 := y0
    have e0_0 := y1.cell (b0.1 0 (.int .i64 sg1) rfl)
    have e0_1 := y1.cell (b0.1 1 (.slice A1 L1 c1) rfl)
    have e1_0 := y2.cell (b1.1 0 (.int .i64 sg2) rfl)
    have e1_1 := y2.cell (b1.1 1 (.slice A2 L2 c2) rfl)
    have q2_0 := b2.1 0 (.int .i64 0) rfl
    have f2_0 := b2.2 0
    have q2_1 := b2.1 1 (.slice none 0 0) rfl
    have f2_1 := b2.2 1
    simp only [World.size_alloc] at e1_0 e1_1 q2_0 f2_0 q2_1 f2_1
    clear hw0 b0 b1 b2 y0 y1 y2
    go_wp2_with fail
    go_region_held3 (fun w' => Ext w w' ∧ w'.cell? ⟨w.heap.size, 0, none⟩ = some (.int .i64 sg1) ∧ w'.cell? ⟨w.heap.size, 1, none⟩ = some (.slice A1 L1 c1) ∧ w'.cell? ⟨w.heap.size + 1, 0, none⟩ = some (.int .i64 sg2) ∧ w'.cell? ⟨w.heap.size + 1, 1, none⟩ = some (.slice A2 L2 c2))
      (first | exact ⟨x0.trans hx4, hx4.cell e0_0, hx4.cell e0_1, hx4.cell e1_0, hx4.cell e1_1⟩ | exact ⟨x0.trans hx3, hx3.cell e0_0, hx3.cell e0_1, hx3.cell e1_0, hx3.cell e1_1⟩ | exact ⟨x0.trans (Ext.drew _), e0_0, e0_1, e1_0, e1_1⟩ | exact two_set (Nat.le_refl _) (x0.trans hx4) (hx4.cell e0_0) (hx4.cell e0_1) (hx4.cell e1_0) (hx4.cell e1_1))
      (first
        | (go_at_call 87; refine (HC.out _ (x0.trans (Ext.drew _))).mono ?_; rintro e w3 ⟨A, c, rfl, ho, hx3'⟩; have hx3 := (Ext.drew w0).trans hx3')
        | (go_at_call 86; refine (HM.out _ _ _ _ ?hb ho).mono ?_; (case hb => first | rfl | (rw [IntWalk.i64_in _ (by omega)])); rintro e w4 ⟨sg', A4, c4, L4, rfl, hz, hx4'⟩; have hx4 := hx3.trans hx4'; have p1 := hx4.frozen q2_0 f2_0; have p2 := hx4.frozen q2_1 f2_1; have t1 := hx4.cell q2_0; have t2 := hx4.cell q2_1))
    obtain ⟨r5, r6, hz', hxx⟩ := fin_rz (Nat.le_trans (Nat.le_succ _) (Nat.le_succ _)) (x0.trans hx4) hz t1 t2
    go_wp2_with fail
    refine bodyPost_ret (v := .agg #[.int .i64 sg', .slice A4 L4 c4]) (by simp [results, Tryz.results63, go_sem, r5, r6]) rfl ?_
    exact ⟨_, _, _, _, rfl, hz', hxx⟩
  · have hf : x.sign * y.sign < 0 := by rw [h1.sign, h2.sign] at hs; omega
    have HK : Hid (∀ w', Ext w w' → Calls Tryz.prog 88 #[.slice A1 L1 c1, .slice A2 L2 c2] w' fun e w'' => e = .returned (.int .i64 (cmpN x.natAbs y.natAbs)) ∧ Ext w' w'') := fun w' hx => by
      rw [h1.len, h2.len]
      refine (rcmp_any (h1.bn.ext hx) (h2.bn.ext hx) hs1 hs2).mono ?_
      rintro e w'' ⟨rfl, rfl⟩
      exact ⟨rfl, Ext.refl _⟩
    have hp : ¬ 0 ≤ wrap64 (sg1 * sg2) := by rw [IntWalk.wrap64_in _ (by omega)]; exact hs
    clear hs hbd
    rcases Nat.lt_or_ge x.natAbs y.natAbs with hl | hl
    · obtain ⟨n1, n2, n3⟩ := sub_sign (x := y) (y := x) (by rw [Int.mul_comm]; exact hf) (by omega)
      rw [Int.add_comm] at n1 n2 n3
      have HC : Hid (∀ w', Ext w w' → Calls Tryz.prog 89 #[.slice A2 L2 c2, .slice A1 L1 c1] w' (RetB w' (y.natAbs - x.natAbs))) := fun w' hx => by
        rw [h1.len, h2.len]
        exact rsub_any (h2.bn.ext hx) (h1.bn.ext hx) (by omega) hs2
      have HM : Hid (∀ w' A c, BN w' A c (y.natAbs - x.natAbs) → Calls Tryz.prog 86 #[.bool (decide (sg2 < 0)), .slice A (digs 2 (y.natAbs - x.natAbs)).length c] w' (RetRZ w' (x + y))) := fun w' A c h => by
        refine make_rz h n1 (fun e => ?_) (fun e => ?_)
        · have := of_decide_eq_true e; rw [h2.sign] at this; exact n2 this
        · have := of_decide_eq_false e; rw [h2.sign] at this; exact n3 this
      have hk : cmpN x.natAbs y.natAbs < 0 := by rw [cmpN_lt hl]; omega
      clear h1 h2 hs1 hs2 n1 n2 n3 hf hl
      generalize y.natAbs - x.natAbs = n at *
      generalize cmpN x.natAbs y.natAbs = k at *
      go_enter Tryz.func63, Tryz.ntmps63
      go_wp2_with fail
      obtain ⟨w0, hw0⟩ : ∃ z : World, z = (((w.alloc (.cells #[.int .i64 sg1, .slice A1 L1 c1] 34)).alloc (.cells #[.int .i64 sg2, .slice A2 L2 c2] 34)).alloc (.cells #[.int .i64 0, .slice none 0 0] 34)) := ⟨_, rfl⟩
      rw [← hw0]
      have b0 := box_at w #[.int .i64 sg1, .slice A1 L1 c1] 34
      have b1 := box_at (w.alloc (.cells #[.int .i64 sg1, .slice A1 L1 c1] 34)) #[.int .i64 sg2, .slice A2 L2 c2] 34
      have b2 := box_at ((w.alloc (.cells #[.int .i64 sg1, .slice A1 L1 c1] 34)).alloc (.cells #[.int .i64 sg2, .slice A2 L2 c2] 34)) #[.int .i64 0, .slice none 0 0] 34
      have hsz : w0.heap.size = w.heap.size + 1 + 1 + 1 := by rw [hw0]; simp
      rw [← hw0] at b2
      have y2 : Ext ((w.alloc (.cells #[.int .i64 sg1, .slice A1 L1 c1] 34)).alloc (.cells #[.int .i64 sg2, .slice A2 L2 c2] 34)) w0 := by rw [hw0]; exact Ext.alloc _ _
      have y1 : Ext (w.alloc (.cells #[.int .i64 sg1, .slice A1 L1 c1] 34)) w0 := (Ext.alloc _ _).trans y2
      have y0 : Ext w w0 := (Ext.alloc _ _).trans y1
      have x0 : Ext w w0 := y0
      have e0_0 := y1.cell (b0.1 0 (.int .i64 sg1) rfl)
      have e0_1 := y1.cell (b0.1 1 (.slice A1 L1 c1) rfl)
      have e1_0 := y2.cell (b1.1 0 (.int .i64 sg2) rfl)
      have e1_1 := y2.cell (b1.1 1 (.slice A2 L2 c2) rfl)
      have q2_0 := b2.1 0 (.int .i64 0) rfl
      have f2_0 := b2.2 0
      have q2_1 := b2.1 1 (.slice none 0 0) rfl
      have f2_1 := b2.2 1
      simp only [World.size_alloc] at e1_0 e1_1 q2_0 f2_0 q2_1 f2_1
      clear hw0 b0 b1 b2 y0 y1 y2
      go_wp2_with fail
      refine (HK.out _ x0).mono ?_
      rintro e w1 ⟨rfl, x1⟩
      have e0_0 := x1.cell e0_0
      have e0_1 := x1.cell e0_1
      have e1_0 := x1.cell e1_0
      have e1_1 := x1.cell e1_1
      have f2_0 := x1.frozen q2_0 f2_0
      have q2_0 := x1.cell q2_0
      have f2_1 := x1.frozen q2_1 f2_1
      have q2_1 := x1.cell q2_1
      have x0 := x0.trans x1
      go_wp2_with fail
      go_region_held3 (fun w' => Ext w w' ∧ w'.cell? ⟨w.heap.size, 0, none⟩ = some (.int .i64 sg1) ∧ w'.cell? ⟨w.heap.size, 1, none⟩ = some (.slice A1 L1 c1) ∧ w'.cell? ⟨w.heap.size + 1, 0, none⟩ = some (.int .i64 sg2) ∧ w'.cell? ⟨w.heap.size + 1, 1, none⟩ = some (.slice A2 L2 c2))
        (first | exact ⟨x0.trans hx4, hx4.cell e0_0, hx4.cell e0_1, hx4.cell e1_0, hx4.cell e1_1⟩ | exact ⟨x0.trans hx3, hx3.cell e0_0, hx3.cell e0_1, hx3.cell e1_0, hx3.cell e1_1⟩ | exact ⟨x0.trans (Ext.drew _), e0_0, e0_1, e1_0, e1_1⟩ | exact two_set (Nat.le_refl _) (x0.trans hx4) (hx4.cell e0_0) (hx4.cell e0_1) (hx4.cell e1_0) (hx4.cell e1_1))
        (first
          | (go_at_call 89; refine (HC.out _ (x0.trans (Ext.drew _))).mono ?_; rintro e w3 ⟨A, c, rfl, ho, hx3'⟩; have hx3 := (Ext.drew w1).trans hx3')
          | (go_at_call 86; refine (HM.out _ _ _ ho).mono ?_; rintro e w4 ⟨sg', A4, c4, L4, rfl, hz, hx4'⟩; have hx4 := hx3.trans hx4'; have p1 := hx4.frozen q2_0 f2_0; have p2 := hx4.frozen q2_1 f2_1; have t1 := hx4.cell q2_0; have t2 := hx4.cell q2_1))
      obtain ⟨r5, r6, hz', hxx⟩ := fin_rz (Nat.le_trans (Nat.le_succ _) (Nat.le_succ _)) (x0.trans hx4) hz t1 t2
      go_wp2_with fail
      refine bodyPost_ret (v := .agg #[.int .i64 sg', .slice A4 L4 c4]) (by simp [results, Tryz.results63, go_sem, r5, r6]) rfl ?_
      exact ⟨_, _, _, _, rfl, hz', hxx⟩
    · obtain ⟨n1, n2, n3⟩ := sub_sign (x := x) (y := y) hf (by omega)
      have HC : Hid (∀ w', Ext w w' → Calls Tryz.prog 89 #[.slice A1 L1 c1, .slice A2 L2 c2] w' (RetB w' (x.natAbs - y.natAbs))) := fun w' hx => by
        rw [h1.len, h2.len]
        exact rsub_any (h1.bn.ext hx) (h2.bn.ext hx) (by omega) hs1
      have HM : Hid (∀ w' A c, BN w' A c (x.natAbs - y.natAbs) → Calls Tryz.prog 86 #[.bool (decide (sg1 < 0)), .slice A (digs 2 (x.natAbs - y.natAbs)).length c] w' (RetRZ w' (x + y))) := fun w' A c h => by
        refine make_rz h n1 (fun e => ?_) (fun e => ?_)
        · have := of_decide_eq_true e; rw [h1.sign] at this; exact n2 this
        · have := of_decide_eq_false e; rw [h1.sign] at this; exact n3 this
      have hk : 0 ≤ cmpN x.natAbs y.natAbs := cmpN_ge hl
      clear h1 h2 hs1 hs2 n1 n2 n3 hf hl
      generalize x.natAbs - y.natAbs = n at *
      generalize cmpN x.natAbs y.natAbs = k at *
      go_enter Tryz.func63, Tryz.ntmps63
      go_wp2_with fail
      obtain ⟨w0, hw0⟩ : ∃ z : World, z = (((w.alloc (.cells #[.int .i64 sg1, .slice A1 L1 c1] 34)).alloc (.cells #[.int .i64 sg2, .slice A2 L2 c2] 34)).alloc (.cells #[.int .i64 0, .slice none 0 0] 34)) := ⟨_, rfl⟩
      rw [← hw0]
      have b0 := box_at w #[.int .i64 sg1, .slice A1 L1 c1] 34
      have b1 := box_at (w.alloc (.cells #[.int .i64 sg1, .slice A1 L1 c1] 34)) #[.int .i64 sg2, .slice A2 L2 c2] 34
      have b2 := box_at ((w.alloc (.cells #[.int .i64 sg1, .slice A1 L1 c1] 34)).alloc (.cells #[.int .i64 sg2, .slice A2 L2 c2] 34)) #[.int .i64 0, .slice none 0 0] 34
      have hsz : w0.heap.size = w.heap.size + 1 + 1 + 1 := by rw [hw0]; simp
      rw [← hw0] at b2
      have y2 : Ext ((w.alloc (.cells #[.int .i64 sg1, .slice A1 L1 c1] 34)).alloc (.cells #[.int .i64 sg2, .slice A2 L2 c2] 34)) w0 := by rw [hw0]; exact Ext.alloc _ _
      have y1 : Ext (w.alloc (.cells #[.int .i64 sg1, .slice A1 L1 c1] 34)) w0 := (Ext.alloc _ _).trans y2
      have y0 : Ext w w0 := (Ext.alloc _ _).trans y1
      have x0 : Ext w w0 := y0
      have e0_0 := y1.cell (b0.1 0 (.int .i64 sg1) rfl)
      have e0_1 := y1.cell (b0.1 1 (.slice A1 L1 c1) rfl)
      have e1_0 := y2.cell (b1.1 0 (.int .i64 sg2) rfl)
      have e1_1 := y2.cell (b1.1 1 (.slice A2 L2 c2) rfl)
      have q2_0 := b2.1 0 (.int .i64 0) rfl
      have f2_0 := b2.2 0
      have q2_1 := b2.1 1 (.slice none 0 0) rfl
      have f2_1 := b2.2 1
      simp only [World.size_alloc] at e1_0 e1_1 q2_0 f2_0 q2_1 f2_1
      clear hw0 b0 b1 b2 y0 y1 y2
      go_wp2_with fail
      refine (HK.out _ x0).mono ?_
      rintro e w1 ⟨rfl, x1⟩
      have e0_0 := x1.cell e0_0
      have e0_1 := x1.cell e0_1
      have e1_0 := x1.cell e1_0
      have e1_1 := x1.cell e1_1
      have f2_0 := x1.frozen q2_0 f2_0
      have q2_0 := x1.cell q2_0
      have f2_1 := x1.frozen q2_1 f2_1
      have q2_1 := x1.cell q2_1
      have x0 := x0.trans x1
      go_wp2_with fail
      go_region_held3 (fun w' => Ext w w' ∧ w'.cell? ⟨w.heap.size, 0, none⟩ = some (.int .i64 sg1) ∧ w'.cell? ⟨w.heap.size, 1, none⟩ = some (.slice A1 L1 c1) ∧ w'.cell? ⟨w.heap.size + 1, 0, none⟩ = some (.int .i64 sg2) ∧ w'.cell? ⟨w.heap.size + 1, 1, none⟩ = some (.slice A2 L2 c2))
        (first | exact ⟨x0.trans hx4, hx4.cell e0_0, hx4.cell e0_1, hx4.cell e1_0, hx4.cell e1_1⟩ | exact ⟨x0.trans hx3, hx3.cell e0_0, hx3.cell e0_1, hx3.cell e1_0, hx3.cell e1_1⟩ | exact ⟨x0.trans (Ext.drew _), e0_0, e0_1, e1_0, e1_1⟩ | exact two_set (Nat.le_refl _) (x0.trans hx4) (hx4.cell e0_0) (hx4.cell e0_1) (hx4.cell e1_0) (hx4.cell e1_1))
        (first
          | (go_at_call 89; refine (HC.out _ (x0.trans (Ext.drew _))).mono ?_; rintro e w3 ⟨A, c, rfl, ho, hx3'⟩; have hx3 := (Ext.drew w1).trans hx3')
          | (go_at_call 86; refine (HM.out _ _ _ ho).mono ?_; rintro e w4 ⟨sg', A4, c4, L4, rfl, hz, hx4'⟩; have hx4 := hx3.trans hx4'; have p1 := hx4.frozen q2_0 f2_0; have p2 := hx4.frozen q2_1 f2_1; have t1 := hx4.cell q2_0; have t2 := hx4.cell q2_1))
      obtain ⟨r5, r6, hz', hxx⟩ := fin_rz (Nat.le_trans (Nat.le_succ _) (Nat.le_succ _)) (x0.trans hx4) hz t1 t2
      go_wp2_with fail
      refine bodyPost_ret (v := .agg #[.int .i64 sg', .slice A4 L4 c4]) (by simp [results, Tryz.results63, go_sem, r5, r6]) rfl ?_
      exact ⟨_, _, _, _, rfl, hz', hxx⟩
/-- The type of the cells of a row of numbers. -/
def Plain (T : TypeId) : Prop := T = 141 ∨ T = 3
/-- Rows of numbers are as they were. -/
def Kept (w w' : World) : Prop := ∀ (b : Nat) (cur : Array Value) (T : TypeId) (fr : Nat × Nat), w.heap[b]? = some (.cells cur T fr) → Plain T → w'.heap[b]? = w.heap[b]?
theorem Kept.refl (w : World) : Kept w w := fun _ _ _ _ _ _ => rfl
theorem Kept.trans {a b c : World} (h : Kept a b) (k : Kept b c) : Kept a c := fun g cur T fr hh hp => by
  have h1 := h g cur T fr hh hp
  exact (k g cur T fr (h1.trans hh) hp).trans h1
theorem Ext.kept {w w' : World} (h : Ext w w') : Kept w w' := fun g _ _ _ hh _ => Below.block h g (Array.getElem?_eq_some_iff.1 hh).1
/-- Block g is a box of type T. -/
def IsBox (w : World) (g : Nat) (T : TypeId) : Prop := ∃ cur fr, w.heap[g]? = some (.cells cur T fr)
theorem IsBox.new {w : World} {g : Nat} (vs : Array Value) (T : TypeId) (h : g = w.heap.size) : IsBox (w.alloc (.cells vs T)) g T := by subst h; exact ⟨vs, (0, 0), heap_alloc_new w _⟩
theorem IsBox.lt {w : World} {g : Nat} {T : TypeId} (h : IsBox w g T) : g < w.heap.size := by
  obtain ⟨cur, fr, hh⟩ := h
  exact (Array.getElem?_eq_some_iff.1 hh).1
theorem IsBox.ext {w w' : World} {g : Nat} {T : TypeId} (h : IsBox w g T) (hx : Ext w w') : IsBox w' g T := by
  have hl := h.lt
  obtain ⟨cur, fr, hh⟩ := h
  exact ⟨cur, fr, (Below.block hx g hl).trans hh⟩
theorem IsBox.set_ {w : World} {g : Nat} {T : TypeId} {p : Addr} {v : Value} (h : IsBox w g T) : IsBox (w.setCell p v) g T := by
  obtain ⟨cur, fr, hh⟩ := h
  obtain ⟨c', h'⟩ := cells_set (p := p) (v := v) hh
  exact ⟨c', fr, h'⟩
theorem Kept.set_ {w0 w : World} {g i : Nat} {s : Option Nat} {T : TypeId} {u : Value} (h : Kept w0 w) (hb : IsBox w g T) (ht : ¬ Plain T) : Kept w0 (w.setCell ⟨g, i, s⟩ u) := by
  refine h.trans fun b cur T' fr hh hp => ?_
  by_cases hg : b = g
  · subst hg
    obtain ⟨c1, f1, h1⟩ := hb
    rw [h1] at hh
    injection hh with hh
    injection hh with _ e
    subst e
    exact absurd hp ht
  · exact Below.heap_setCell w ⟨g, i, s⟩ u b hg
theorem plain_int : ¬ Plain 25 := by unfold Plain; decide
theorem plain_Z : ¬ Plain 34 := by unfold Plain; decide

theorem cell_kept {w w' : World} {b o : Nat} (h : w'.heap[b]? = w.heap[b]?) : w'.cell? ⟨b, o, none⟩ = w.cell? ⟨b, o, none⟩ := World.cell?_of_block h
theorem Own.kept {w w' : World} {B c : Nat} {k : IntKind} {T : TypeId} {A : Option Addr} {ds : List Nat} (h : Own w B k T A c ds) (hk : Kept w w') (hp : Plain T) : Own w' B k T A c ds := by
  refine ⟨h.1, ?_⟩
  rcases h.2 with h2 | ⟨g, cap, cur, hv, hg, hr, r⟩
  · exact .inl h2
  · exact .inr ⟨g, cap, cur, hv, hg, (hk _ _ _ _ hr hp).trans hr, r⟩
theorem NO.kept {w w' : World} {B : Nat} {A : Option Addr} {c n : Nat} (h : NO w B A c n) (hk : Kept w w') : NO w' B A c n := Own.kept h hk (.inl rfl)
theorem ZO.kept {w w' : World} {B : Nat} {s : Bool} {A : Option Addr} {c L : Nat} {x : Int} (h : ZO w B s A c L x) (hk : Kept w w') : ZO w' B s A c L x := ⟨h.no.kept hk, h.sign, h.len⟩
theorem BN.kept {w w' : World} {A : Option Addr} {c n : Nat} (h : BN w A c n) (hk : Kept w w') : BN w' A c n := by
  refine ⟨fun j hj => ?_, h.le, h.cap, h.nz, fun g o s e => ?_⟩
  · obtain ⟨b, o, hA, hb, hc⟩ := h.rd j hj
    obtain ⟨cur, fr, hh⟩ := h.ty b o none hA
    have e := hk b cur _ fr hh (.inr rfl)
    exact ⟨b, o, hA, (Array.getElem?_eq_some_iff.1 (e.trans hh)).1, (cell_kept e).trans hc⟩
  · obtain ⟨cur, fr, hh⟩ := h.ty g o s e
    exact ⟨cur, fr, (hk g cur _ fr hh (.inr rfl)).trans hh⟩
theorem RZ.kept {w w' : World} {sg : Int} {A : Option Addr} {c L : Nat} {x : Int} (h : RZ w sg A c L x) (hk : Kept w w') : RZ w' sg A c L x := ⟨h.bn.kept hk, h.sign, h.len⟩

/-- s points to a box of type T that holds the values vs and may be written. -/
def BxW (w : World) (s : Value) (T : TypeId) (vs : Array Value) : Prop :=
  ∃ g, s = .pointer (some ⟨g, 0, none⟩) ∧ IsBox w g T ∧ ∀ (i : Nat) (v : Value), vs[i]? = some v → w.cell? ⟨g, i, none⟩ = some v ∧ w.frozen? ⟨g, i, none⟩ = false
/-- s points to a box that holds the values vs. -/
def Bx (w : World) (s : Value) (vs : Array Value) : Prop := ∃ g, s = .pointer (some ⟨g, 0, none⟩) ∧ ∀ (i : Nat) (v : Value), vs[i]? = some v → w.cell? ⟨g, i, none⟩ = some v
theorem Bx.mk2 {w : World} {g : Nat} {v0 v1 : Value} (c0 : w.cell? ⟨g, 0, none⟩ = some v0) (c1 : w.cell? ⟨g, 1, none⟩ = some v1) : Bx w (.pointer (some ⟨g, 0, none⟩)) #[v0, v1] := by
  refine ⟨g, rfl, fun i v hv => ?_⟩
  match i, hv with
  | 0, hv => simp at hv; subst hv; exact c0
  | 1, hv => simp at hv; subst hv; exact c1
  | i + 2, hv => simp at hv
theorem Ext.set_ {w w' : World} {g i : Nat} {s : Option Nat} {u : Value} (h : Ext w w') (hg : w.heap.size ≤ g) : Ext w (w'.setCell ⟨g, i, s⟩ u) := Below.setCell h (p := ⟨g, i, s⟩) hg u
theorem IsBox.alloc_ {w : World} {g : Nat} {T : TypeId} {o : Obj} (h : IsBox w g T) : IsBox (w.alloc o) g T := h.ext (Ext.alloc _ _)
theorem IsBox.drew_ {w : World} {g : Nat} {T : TypeId} (h : IsBox w g T) : IsBox w.drew g T := h.ext (Ext.drew _)
theorem Ext.alloc_r {a w : World} {o : Obj} (h : Ext a w) : Ext a (w.alloc o) := h.trans (Ext.alloc _ _)
theorem Ext.drew_r {a w : World} (h : Ext a w) : Ext a w.drew := h.trans (Ext.drew _)
theorem Ext.set_r {a w : World} {g i : Nat} {s : Option Nat} {u : Value} (h : Ext a w) (hg : a.heap.size ≤ g) : Ext a (w.setCell ⟨g, i, s⟩ u) := h.set_ hg
theorem Kept.alloc_r {a w : World} {o : Obj} (h : Kept a w) : Kept a (w.alloc o) := h.trans (Ext.alloc _ _).kept
theorem Kept.drew_r {a w : World} (h : Kept a w) : Kept a w.drew := h.trans (Ext.drew _).kept
theorem Kept.setZ {a w : World} {g i : Nat} {s : Option Nat} {u : Value} (hb : IsBox w g 34) (h : Kept a w) : Kept a (w.setCell ⟨g, i, s⟩ u) := h.set_ hb plain_Z
theorem Kept.setI {a w : World} {g i : Nat} {s : Option Nat} {u : Value} (hb : IsBox w g 25) (h : Kept a w) : Kept a (w.setCell ⟨g, i, s⟩ u) := h.set_ hb plain_int
/-- An integer of the reference in a box. -/
def PutRZ (w w' : World) (x : Int) (s : Value) : Prop := ∃ sg A c L, Bx w' s #[.int .i64 sg, .slice A L c] ∧ RZ w' sg A c L x ∧ Ext w w'
/-- An integer in a box. -/
def PutZ (w w' : World) (x : Int) (s : Value) : Prop := ∃ sb A c L, Bx w' s #[.bool sb, .slice A L c] ∧ ZO w' w.heap.size sb A c L x ∧ Ext w w'
theorem PutRZ.mk {w w' : World} {sg x : Int} {A : Option Addr} {c L : Nat} {s : Value} (hb : Bx w' s #[.int .i64 sg, .slice A L c]) (hz : RZ w' sg A c L x) (hx : Ext w w') : PutRZ w w' x s := ⟨sg, A, c, L, hb, hz, hx⟩
theorem PutZ.mk {w w' : World} {sb : Bool} {x : Int} {A : Option Addr} {c L : Nat} {s : Value} (hb : Bx w' s #[.bool sb, .slice A L c]) (hz : ZO w' w.heap.size sb A c L x) (hx : Ext w w') : PutZ w w' x s := ⟨sb, A, c, L, hb, hz, hx⟩
/-- What a new box bears behind a call. -/
theorem box_ext {w w' : World} {vs : Array Value} {T : TypeId} (hx : Ext (w.alloc (.cells vs T)) w') :
    (∀ i v, vs[i]? = some v → w'.cell? ⟨w.heap.size, i, none⟩ = some v ∧ w'.frozen? ⟨w.heap.size, i, none⟩ = false) ∧ IsBox w' w.heap.size T ∧ w.heap.size < w'.heap.size := by
  refine ⟨fun i v hv => ?_, (IsBox.new vs T rfl).ext hx, ?_⟩
  · have h := (box_at w vs T).1 i v hv
    exact ⟨hx.cell h, hx.frozen h ((box_at w vs T).2 i)⟩
  · have := hx.size; simp at this; omega
end Go.Proofs.YtehhkeenjlpikaaGreat
