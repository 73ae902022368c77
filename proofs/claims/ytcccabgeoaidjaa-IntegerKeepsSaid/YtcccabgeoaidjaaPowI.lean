/- integer.Pow, apart from the fractions (for the seat of chapter 02). -/
import Derived.Test.YtcccabgeoaidjaaLawZ
import Derived.Test.YtcccabgeoaidjaaIntD
import Derived.Test.YtcccabgeoaidjaaShelfMul
import Derived.Deep.RegionHeldLaw
import Derived.Deep.LoopGhost
import Derived.Deep.QuietTactic
import Derived.BigQuiet
namespace Go.Proofs.Ytcccabgeoaidjaa
open Go.RowKit
theorem bw_far {w : World} {p q : Addr} {u v : Value} (hne : p.block ≠ q.block) (h : w.cell? q = some v) : (w.setCell p u).cell? q = some v :=
  (World.cell?_setCell_other _ _ _ _ (fun e => hne (by rw [e]))).trans h
theorem bw_frozen {w : World} {p q : Addr} {u : Value} (h : w.frozen? q = false) : (w.setCell p u).frozen? q = false := by
  rw [World.frozen?_setCell]; exact h
/-- A box of two cells that may be written. -/
structure BW (w : World) (b : Nat) (T : TypeId) (v0 v1 : Value) : Prop where
  box : IsBox w b T
  c0 : w.cell? ⟨b, 0, none⟩ = some v0
  c1 : w.cell? ⟨b, 1, none⟩ = some v1
  f0 : w.frozen? ⟨b, 0, none⟩ = false
  f1 : w.frozen? ⟨b, 1, none⟩ = false
theorem BW.ext {w w' : World} {b : Nat} {T : TypeId} {v0 v1 : Value} (h : BW w b T v0 v1) (hx : Ext w w') : BW w' b T v0 v1 :=
  ⟨h.box.ext hx, hx.cell h.c0, hx.cell h.c1, hx.frozen h.c0 h.f0, hx.frozen h.c1 h.f1⟩
theorem BW.far {w : World} {b b' i : Nat} {T : TypeId} {v0 v1 u : Value} (h : BW w b T v0 v1) (hne : b' ≠ b) : BW (w.setCell ⟨b', i, none⟩ u) b T v0 v1 :=
  ⟨h.box.set_, bw_far hne h.c0, bw_far hne h.c1, bw_frozen h.f0, bw_frozen h.f1⟩
theorem BW.set2 {w : World} {b : Nat} {T : TypeId} {v0 v1 u0 u1 : Value} (h : BW w b T v0 v1) : BW ((w.setCell ⟨b, 0, none⟩ u0).setCell ⟨b, 1, none⟩ u1) b T u0 u1 := by
  obtain ⟨r0, r1⟩ := res_set (r1 := u0) (r2 := u1) h.c0 h.c1
  exact ⟨h.box.set_.set_, r0, r1, bw_frozen (bw_frozen h.f0), bw_frozen (bw_frozen h.f1)⟩
theorem BW.lt {w : World} {b : Nat} {T : TypeId} {v0 v1 : Value} (h : BW w b T v0 v1) : b < w.heap.size := h.box.lt
theorem dl_one : dl 1 = 1 := dl_lit (ds := [1]) (by intro d hd; simp at hd; subst hd; unfold B32; omega) (by simp) (by simp [val])
def RetZOK (w : World) (x : Int) (e : Ending) (w' : World) : Prop := ∃ s A c L, e = .returned (.tuple #[.agg #[.bool s, .slice A L c], .int .i64 0]) ∧ ZO w' w.heap.size s A c L x ∧ Ext w w'
/-- An integer in new memory, in a box that may be written. -/
def PutU (w w' : World) (x : Int) (s : Value) : Prop := ∃ b sb A c L, s = .pointer (some ⟨b, 0, none⟩) ∧ w.heap.size ≤ b ∧ BW w' b 25 (.bool sb) (.slice A L c) ∧ ZO w' w.heap.size sb A c L x ∧ Ext w w'
theorem PutU.mk {w w' : World} {b : Nat} {sb : Bool} {x : Int} {A : Option Addr} {c L : Nat} (hb : w.heap.size ≤ b) (h1 : IsBox w' b 25) (h2 : w'.cell? ⟨b, 0, none⟩ = some (.bool sb)) (h3 : w'.cell? ⟨b, 1, none⟩ = some (.slice A L c)) (h4 : w'.frozen? ⟨b, 0, none⟩ = false) (h5 : w'.frozen? ⟨b, 1, none⟩ = false) (hz : ZO w' w.heap.size sb A c L x) (hx : Ext w w') : PutU w w' x (.pointer (some ⟨b, 0, none⟩)) :=
  ⟨b, sb, A, c, L, rfl, hb, ⟨h1, h2, h3, h4, h5⟩, hz, hx⟩
theorem halve_odd {r e m n : Nat} (h : r + e * m = n) (ho : m % 2 = 1) : r + e + (e + e) * (m / 2) = n := by
  have h5 : e * m = e * (2 * (m / 2) + 1) := by rw [show 2 * (m / 2) + 1 = m by omega]
  rw [Nat.mul_add, Nat.mul_one, ← Nat.mul_assoc, Nat.mul_comm e 2] at h5
  rw [show e + e = 2 * e by omega]
  omega
theorem halve_even {r e m n : Nat} (h : r + e * m = n) (ho : m % 2 = 0) : r + (e + e) * (m / 2) = n := by
  have h5 : e * m = e * (2 * (m / 2)) := by rw [show 2 * (m / 2) = m by omega]
  rw [← Nat.mul_assoc, Nat.mul_comm e 2] at h5
  rw [show e + e = 2 * e by omega]
  omega
theorem and_one64 (m : Nat) (h : m ≤ 100000000) : bits BinOp.and IntKind.i64 (m : Int) 1 = ((m % 2 : Nat) : Int) := by
  have h1 : (BitVec.ofInt 64 (m : Int)).toNat = m := by
    rw [BitVec.ofInt_natCast, BitVec.toNat_ofNat]; exact Nat.mod_eq_of_lt (by omega)
  show IntKind.i64.wrap ((BitVec.ofInt 64 (m : Int) &&& BitVec.ofInt 64 (1 : Int)).toNat : Int) = _
  rw [BitVec.toNat_and, h1, show (BitVec.ofInt 64 (1 : Int)).toNat = 1 from rfl, Nat.and_one_is_mod]
  exact IntWalk.i64_in _ (by omega)
theorem dl_pow (x : Int) : ∀ k : Nat, 1 ≤ k → dl (x ^ k).natAbs ≤ dl x.natAbs * k
  | 0, h => by omega
  | 1, _ => by rw [Int.pow_one, Nat.mul_one]; exact Nat.le_refl _
  | k + 2, _ => by
    rw [Int.pow_succ]
    have h1 := dlz_mul (x ^ (k + 1)) x
    have h2 := dl_pow x (k + 1) (by omega)
    rw [Nat.mul_succ]
    omega
set_option maxHeartbeats 4000000 in
set_option maxRecDepth 100000 in
theorem ipow_g {w : World} {s1 : Bool} {A1 : Option Addr} {c1 L1 : Nat} {x : Int} {n : Nat} (h1 : ZV w s1 A1 c1 L1 x) (hd1 : dl x.natAbs ≤ 40) (hbd : ∀ j, j ≤ n → dl (x ^ j).natAbs ≤ 40) (hP : bl x.natAbs * n ≤ 16777216) (hn2 : n ≤ 16777216) :
    Calls Try.prog 39 #[.agg #[.bool s1, .slice A1 L1 c1], .int .i64 n] w (RetZOK w (x ^ n)) := by
  have hbl : bl x.natAbs ≤ 32 * dl x.natAbs := by
    have h := bl_V (valid_digs B32_two x.natAbs)
    rwa [show V (digs B32 x.natAbs) = x.natAbs from val_digs B32_two _] at h
  have HBD := Lib.hid hbd
  clear hbd
  have hb1 : bl x.natAbs ≤ 1280 := by omega
  have HB : Hid (∀ w', Ext w w' → Calls Try.prog 22 #[.agg #[.bool s1, .slice A1 L1 c1]] w' fun e w'' => e = .returned (.int .i64 (bl x.natAbs)) ∧ Ext w' w'') := fun w' hx => zbitLen_z (h1.ext hx) (by omega)
  have HMU : Hid (∀ w', Calls Try.prog 61 #[.int .u64 (bl x.natAbs), .int .u64 n] w' fun e w'' => e = .returned (.tuple #[.int .u64 0, .int .u64 (bl x.natAbs * n : Nat)]) ∧ w'' = w') := fun w' => by
    have h5 := Try.bits_Mul64 (bl x.natAbs) n (by omega) (by omega) w'
    rw [Nat.div_eq_of_lt (by omega), Nat.mod_eq_of_lt (by omega)] at h5
    exact h5
  generalize bl x.natAbs = BB at *
  generalize BB * n = PP at *
  clear hbl
  go_enter Try.func39, Try.ntmps39
  go_wp2_with fail
  go_step3
  go_wp2_with fail
  obtain ⟨w0, hw0⟩ : ∃ z : World, z = ((w.alloc (.cells #[.bool s1, .slice A1 L1 c1] 25)).alloc (.cells #[.bool false, .slice none 0 0] 25)) := ⟨_, rfl⟩
  rw [← hw0]
  have b0 := box_at w #[.bool s1, .slice A1 L1 c1] 25
  have b1 := box_at (w.alloc (.cells #[.bool s1, .slice A1 L1 c1] 25)) #[.bool false, .slice none 0 0] 25
  have hsz : w0.heap.size = w.heap.size + 1 + 1 := by rw [hw0]; simp
  rw [← hw0] at b1
  have y1 : Ext (w.alloc (.cells #[.bool s1, .slice A1 L1 c1] 25)) w0 := by rw [hw0]; exact Ext.alloc _ _
  have y0 : Ext w w0 := (Ext.alloc _ _).trans y1
  have x0 : Ext w w0 := y0
  have e0_0 := y1.cell (b0.1 0 (.bool s1) rfl)
  have e0_1 := y1.cell (b0.1 1 (.slice A1 L1 c1) rfl)
  have q1_0 := b1.1 0 (.bool false) rfl
  have f1_0 := b1.2 0
  have q1_1 := b1.1 1 (.slice none 0 0) rfl
  have f1_1 := b1.2 1
  simp only [World.size_alloc] at q1_0 f1_0 q1_1 f1_1
  clear hw0 b0 b1 y0 y1
  have hS0 := Lib.hid hsz
  clear hsz
  go_wp2_with fail
  refine (HB.out _ (by repeat' (first | with_reducible exact Ext.refl _ | with_reducible assumption | with_reducible apply Ext.alloc_r | with_reducible apply Ext.drew_r | with_reducible apply Ext.drewN_r | with_reducible refine Ext.trans ?_ ‹Ext _ _›))).mono ?_
  rintro e w1 ⟨rfl, x1⟩
  replace e0_0 := x1.cell e0_0
  replace e0_1 := x1.cell e0_1
  go_wp2_with fail
  refine (HMU.out _).mono ?_
  rintro e w1 ⟨rfl, rfl⟩
  clear HB HMU
  go_wp2_with fail
  go_cut [8, 9] (fun s8 s9 wx => PutU w1 wx 1 s8 ∧ PutU w1 wx x s9 ∧ s8 ≠ s9)
  case first =>
    have HK : Hid (∀ w', Ext w1 w' → Ext w1 w' ∧ w'.cell? ⟨w.heap.size, 0, none⟩ = some (.bool s1) ∧ w'.cell? ⟨w.heap.size, 1, none⟩ = some (.slice A1 L1 c1)) := fun w' hk => ⟨hk, hk.cell e0_0, hk.cell e0_1⟩
    first
    | go_region_held3 (fun w' => Ext w1 w' ∧ w'.cell? ⟨w.heap.size, 0, none⟩ = some (.bool s1) ∧ w'.cell? ⟨w.heap.size, 1, none⟩ = some (.slice A1 L1 c1))
        ((with_reducible refine HK.out _ ?_; (repeat' (first | with_reducible exact Ext.refl _ | with_reducible assumption | with_reducible apply Ext.alloc_r | with_reducible apply Ext.drew_r | with_reducible apply Ext.drewN_r | with_reducible apply Ext.set_r | with_reducible exact Nat.le_refl _ | omega | with_reducible refine Ext.trans ?_ ‹Ext _ _›))))
        (first
          | (go_at_call 21; have hgd := p; clear hgd; refine (znormal_z (h1.ext (by repeat' (first | with_reducible exact Ext.refl _ | with_reducible assumption | with_reducible apply Ext.alloc_r | with_reducible apply Ext.drew_r | with_reducible apply Ext.drewN_r | with_reducible refine Ext.trans ?_ ‹Ext _ _›))) (by omega)).mono ?_; rintro e w3 ⟨sq, Aq, cq, Lq, rfl, q, x3⟩; (have zs3 := x3.size); (try simp only [World.size_alloc] at zs3); (try ((with_reducible have h3_0 := box_ext (vs := #[.bool false, .slice none 0 0]) x3); have h3_0c0 := (h3_0.1 0 (.bool false) rfl).1; have h3_0f0 := (h3_0.1 0 (.bool false) rfl).2; have h3_0c1 := (h3_0.1 1 (.slice none 0 0) rfl).1; have h3_0f1 := (h3_0.1 1 (.slice none 0 0) rfl).2; have h3_0b := h3_0.2.1; have h3_0z := h3_0.2.2; (try simp only [World.size_alloc] at h3_0b h3_0z h3_0c0 h3_0f0 h3_0c1 h3_0f1); have h3_0m := Nat.ne_of_lt h3_0z; have h3_0n := Nat.ne_of_gt h3_0z; clear h3_0)); (try ((with_reducible have h3_1 := box_ext (vs := #[.bool false, .slice none 0 0]) ((Ext.alloc _ _).trans x3)); have h3_1c0 := (h3_1.1 0 (.bool false) rfl).1; have h3_1f0 := (h3_1.1 0 (.bool false) rfl).2; have h3_1c1 := (h3_1.1 1 (.slice none 0 0) rfl).1; have h3_1f1 := (h3_1.1 1 (.slice none 0 0) rfl).2; have h3_1b := h3_1.2.1; have h3_1z := h3_1.2.2; (try simp only [World.size_alloc] at h3_1b h3_1z h3_1c0 h3_1f0 h3_1c1 h3_1f1); have h3_1m := Nat.ne_of_lt h3_1z; have h3_1n := Nat.ne_of_gt h3_1z; clear h3_1)); (try (have hh : Ext w2 w3 := ?g300; (case g300 => ((repeat' (first | with_reducible exact Ext.refl _ | with_reducible assumption | with_reducible apply Ext.alloc_r | with_reducible apply Ext.drew_r | with_reducible apply Ext.drewN_r | with_reducible refine Ext.trans ?_ ‹Ext _ _›)); done)); replace h2_0f0 := hh.frozen h2_0c0 h2_0f0; replace h2_0c0 := hh.cell h2_0c0; replace h2_0f1 := hh.frozen h2_0c1 h2_0f1; replace h2_0c1 := hh.cell h2_0c1; replace h2_0b := h2_0b.ext hh; have h2_0z2 := Nat.lt_of_lt_of_le h2_0z hh.size; have h2_0m2 := Nat.ne_of_lt h2_0z2; have h2_0n2 := Nat.ne_of_gt h2_0z2; clear hh)); (try (have hh : Ext w2 w3 := ?g301; (case g301 => ((repeat' (first | with_reducible exact Ext.refl _ | with_reducible assumption | with_reducible apply Ext.alloc_r | with_reducible apply Ext.drew_r | with_reducible apply Ext.drewN_r | with_reducible refine Ext.trans ?_ ‹Ext _ _›)); done)); replace h2_1f0 := hh.frozen h2_1c0 h2_1f0; replace h2_1c0 := hh.cell h2_1c0; replace h2_1f1 := hh.frozen h2_1c1 h2_1f1; replace h2_1c1 := hh.cell h2_1c1; replace h2_1b := h2_1b.ext hh; have h2_1z2 := Nat.lt_of_lt_of_le h2_1z hh.size; have h2_1m2 := Nat.ne_of_lt h2_1z2; have h2_1n2 := Nat.ne_of_gt h2_1z2; clear hh)))
          | (go_at_call 28; refine (of_z (n := 1) (by omega)).mono ?_; rintro e w2 ⟨sp, Ap, cp, Lp, rfl, p, x2⟩; (have zs2 := x2.size); (try simp only [World.size_alloc, World.size_drew] at zs2); (try ((with_reducible have h2_0 := box_ext (vs := #[.bool false, .slice none 0 0]) ((Ext.drew _).trans x2)); have h2_0c0 := (h2_0.1 0 (.bool false) rfl).1; have h2_0f0 := (h2_0.1 0 (.bool false) rfl).2; have h2_0c1 := (h2_0.1 1 (.slice none 0 0) rfl).1; have h2_0f1 := (h2_0.1 1 (.slice none 0 0) rfl).2; have h2_0b := h2_0.2.1; have h2_0z := h2_0.2.2; (try simp only [World.size_alloc] at h2_0b h2_0z h2_0c0 h2_0f0 h2_0c1 h2_0f1); have h2_0m := Nat.ne_of_lt h2_0z; have h2_0n := Nat.ne_of_gt h2_0z; clear h2_0)); (try ((with_reducible have h2_1 := box_ext (vs := #[.bool false, .slice none 0 0]) (((Ext.alloc _ _).trans (Ext.drew _)).trans x2)); have h2_1c0 := (h2_1.1 0 (.bool false) rfl).1; have h2_1f0 := (h2_1.1 0 (.bool false) rfl).2; have h2_1c1 := (h2_1.1 1 (.slice none 0 0) rfl).1; have h2_1f1 := (h2_1.1 1 (.slice none 0 0) rfl).2; have h2_1b := h2_1.2.1; have h2_1z := h2_1.2.2; (try simp only [World.size_alloc] at h2_1b h2_1z h2_1c0 h2_1f0 h2_1c1 h2_1f1); have h2_1m := Nat.ne_of_lt h2_1z; have h2_1n := Nat.ne_of_gt h2_1z; clear h2_1))))
    | fail
    all_goals (clear HK; go_wp2_with fail; go_meet)
    all_goals
      refine ⟨?_, ?_, ?_⟩
      · refine PutU.mk (sb := sp) (A := Ap) (c := cp) (L := Lp) ?_ ?_ ?_ ?_ ?_ ?_ ((p.mono (Ext.size (by repeat' (first | with_reducible exact Ext.refl _ | with_reducible assumption | with_reducible apply Ext.alloc_r | with_reducible apply Ext.drew_r | with_reducible apply Ext.drewN_r | with_reducible refine Ext.trans ?_ ‹Ext _ _›)))).kept ?_) ?_
        · (first | exact Nat.le_refl _ | omega | (simp only [World.size_alloc, World.size_drew]; omega) | (simp; omega))
        · (repeat' (first | with_reducible assumption | with_reducible apply IsBox.set_ | (with_reducible apply IsBox.new; (first | (with_reducible rfl) | simp); done) | with_reducible apply IsBox.alloc_ | with_reducible apply IsBox.drew_ | with_reducible refine IsBox.ext ?_ ‹Ext _ _›))
        · go_simp
        · go_simp
        · go_simp
        · go_simp
        · (repeat' (first | with_reducible exact Kept.refl _ | with_reducible apply Kept.alloc_r | with_reducible apply Kept.drew_r | (with_reducible apply Kept.setZ; (case hb => ((repeat' (first | with_reducible assumption | with_reducible apply IsBox.set_ | (with_reducible apply IsBox.new; (first | (with_reducible rfl) | simp); done) | with_reducible apply IsBox.alloc_ | with_reducible apply IsBox.drew_ | with_reducible refine IsBox.ext ?_ ‹Ext _ _›)); done))) | (with_reducible apply Kept.setI; (case hb => ((repeat' (first | with_reducible assumption | with_reducible apply IsBox.set_ | (with_reducible apply IsBox.new; (first | (with_reducible rfl) | simp); done) | with_reducible apply IsBox.alloc_ | with_reducible apply IsBox.drew_ | with_reducible refine IsBox.ext ?_ ‹Ext _ _›)); done))) | with_reducible refine Kept.trans ?_ (Ext.kept ‹Ext _ _›)))
        · (repeat' (first | with_reducible exact Ext.refl _ | with_reducible assumption | with_reducible apply Ext.alloc_r | with_reducible apply Ext.drew_r | with_reducible apply Ext.drewN_r | with_reducible apply Ext.set_r | with_reducible exact Nat.le_refl _ | omega | with_reducible refine Ext.trans ?_ ‹Ext _ _›))
      · refine PutU.mk (sb := sq) (A := Aq) (c := cq) (L := Lq) ?_ ?_ ?_ ?_ ?_ ?_ ((q.mono (Ext.size (by repeat' (first | with_reducible exact Ext.refl _ | with_reducible assumption | with_reducible apply Ext.alloc_r | with_reducible apply Ext.drew_r | with_reducible apply Ext.drewN_r | with_reducible refine Ext.trans ?_ ‹Ext _ _›)))).kept ?_) ?_
        · (first | exact Nat.le_refl _ | omega | (simp only [World.size_alloc, World.size_drew]; omega) | (simp; omega))
        · (repeat' (first | with_reducible assumption | with_reducible apply IsBox.set_ | (with_reducible apply IsBox.new; (first | (with_reducible rfl) | simp); done) | with_reducible apply IsBox.alloc_ | with_reducible apply IsBox.drew_ | with_reducible refine IsBox.ext ?_ ‹Ext _ _›))
        · go_simp
        · go_simp
        · go_simp
        · go_simp
        · (repeat' (first | with_reducible exact Kept.refl _ | with_reducible apply Kept.alloc_r | with_reducible apply Kept.drew_r | (with_reducible apply Kept.setZ; (case hb => ((repeat' (first | with_reducible assumption | with_reducible apply IsBox.set_ | (with_reducible apply IsBox.new; (first | (with_reducible rfl) | simp); done) | with_reducible apply IsBox.alloc_ | with_reducible apply IsBox.drew_ | with_reducible refine IsBox.ext ?_ ‹Ext _ _›)); done))) | (with_reducible apply Kept.setI; (case hb => ((repeat' (first | with_reducible assumption | with_reducible apply IsBox.set_ | (with_reducible apply IsBox.new; (first | (with_reducible rfl) | simp); done) | with_reducible apply IsBox.alloc_ | with_reducible apply IsBox.drew_ | with_reducible refine IsBox.ext ?_ ‹Ext _ _›)); done))) | with_reducible refine Kept.trans ?_ (Ext.kept ‹Ext _ _›)))
        · (repeat' (first | with_reducible exact Ext.refl _ | with_reducible assumption | with_reducible apply Ext.alloc_r | with_reducible apply Ext.drew_r | with_reducible apply Ext.drewN_r | with_reducible apply Ext.set_r | with_reducible exact Nat.le_refl _ | omega | with_reducible refine Ext.trans ?_ ‹Ext _ _›))
      · (first | (simp; done) | (simp; omega) | (simp_all; done))
  case rest =>
    obtain ⟨hc0, hc1, hne⟩ := hcut
    obtain ⟨b8, sp, Ap, cp, Lp, rfl, hb8, hw8, hr8, hxc⟩ := hc0
    obtain ⟨b9, sq, Aq, cq, Lq, rfl, hb9, hw9, hr9, hxc2⟩ := hc1
    clear hxc2
    have hnb : b8 ≠ b9 := fun h => hne (by rw [h])
    have HR8 := Lib.hid hr8
    have HR9 := Lib.hid hr9
    have HW8 := Lib.hid hw8
    have HW9 := Lib.hid hw9
    have HBB := Lib.hid (And.intro hb8 hb9)
    clear hne hr8 hr9 hw8 hw9 hb8 hb9 h1 e0_0 e0_1
    have x0c : Ext w w1 := x0.trans x1
    replace f1_0 := x1.frozen q1_0 f1_0
    replace f1_1 := x1.frozen q1_1 f1_1
    replace q1_0 := x1.cell q1_0
    replace q1_1 := x1.cell q1_1
    obtain ⟨wk, rfl⟩ : ∃ z : World, z = wc := ⟨_, rfl⟩
    go_wp2_with fail
    go_step3
    go_wp2_with fail
    go_loopg [1] n (fun kk nv wr => ∃ (m : Nat) (R S : Int) (s8 s9 : Bool) (A8 A9 : Option Addr) (c8 L8 c9 L9 : Nat), nv = .int .i64 m ∧ BW wr b8 25 (.bool s8) (.slice A8 L8 c8) ∧ BW wr b9 25 (.bool s9) (.slice A9 L9 c9) ∧ Hid (ZO wr w1.heap.size s8 A8 c8 L8 R) ∧ Hid (ZO wr w1.heap.size s9 A9 c9 L9 S) ∧ Hid (∃ r e : Nat, R = x ^ r ∧ S = x ^ e ∧ r + e * m = n ∧ 1 ≤ e) ∧ m ≤ n ∧ Hid (m ≤ kk) ∧ Ext w1 wr)
    case atStart => exact ⟨n, 1, x, sp, sq, Ap, Aq, cp, Lp, cq, Lq, rfl, HW8.out, HW9.out, HR8.out, HR9.out, ⟨0, 1, (Int.pow_zero x).symm, (Int.pow_one x).symm, by omega, Nat.le_refl _⟩, Nat.le_refl _, Nat.le_refl _, hxc⟩
    case round =>
      clear HR8 HR9 HW8 HW9 hxc
      obtain ⟨m, R, S, s8, s9, A8, A9, c8, L8, c9, L9, rfl, hw8, hw9, HR8, HR9, HE, hmn, HK, hx⟩ := hrel
      have a0 := hw8.c0
      have a1 := hw8.c1
      have a2 := hw9.c0
      have a3 := hw9.c1
      have f80 := hw8.f0
      have f81 := hw8.f1
      have f90 := hw9.f0
      have f91 := hw9.f1
      have d1 := hx.cell q1_0
      have d2 := hx.cell q1_1
      have f1 := hx.frozen q1_0 f1_0
      have f2 := hx.frozen q1_1 f1_1
      have hsw := hx.size
      obtain ⟨r, e, hRr, hSe, hre, he1⟩ := HE.out
      have hgB : w.heap.size + 1 < w1.heap.size := by have h5 := x0c.size; have h6 := World.block_lt_of_cell? w1 _ q1_0; exact h6
      have hw1 : w.heap.size ≤ w1.heap.size := x0c.size
      have hxw1 : Ext w wr := x0c.trans hx
      have hdR : 1 ≤ m → dl R.natAbs ≤ 40 := fun h1m => by
        rw [hRr]
        exact HBD.out r (by omega)
      have hdS' : 1 ≤ m → dl S.natAbs ≤ 40 := fun h1m => by
        rw [hSe]
        have h7 : e ≤ e * m := Nat.le_mul_of_pos_right e h1m
        exact HBD.out e (by omega)
      have hbit : bits BinOp.and IntKind.i64 (m : Int) 1 = ((m % 2 : Nat) : Int) := and_one64 m (by omega)
      have HX : Hid (R = x ^ r ∧ S = x ^ e ∧ r + e * m = n ∧ 1 ≤ e) := ⟨hRr, hSe, hre, he1⟩
      clear HE hRr hSe hre he1
      by_cases hodd : m % 2 = 1
      · have hb1 : (bits BinOp.and IntKind.i64 (m : Int) 1 != 0) = true := by rw [hbit, hodd]; rfl
        have hm1 : 1 ≤ m := by omega
        have hdR := hdR hm1
        have hdS := hdS' hm1
        clear hbit hdS'
        go_wp2_with fail
        refine (mul_z HR8.out.zv HR9.out.zv (by omega) (by omega)).mono ?_
        rintro e2 w9 ⟨s7, A7, c7, L7, rfl, z7, x9⟩
        have HZ7 := Lib.hid (z7.mono (show w1.heap.size ≤ wr.heap.size by omega))
        clear z7
        have u8 := hw8.ext x9
        have u9 := hw9.ext x9
        have HZ9 := Lib.hid (HR9.out.ext x9)
        have hx9 : Ext w1 w9 := hx.trans x9
        obtain ⟨wv, hwv⟩ : ∃ z : World, z = (w9.setCell ⟨b8, 0, none⟩ (.bool s7)).setCell ⟨b8, 1, none⟩ (.slice A7 L7 c7) := ⟨_, rfl⟩
        have hk : Kept w9 wv := by rw [hwv]; exact Kept.set_ (Kept.set_ (Kept.refl _) u8.box plain_int) u8.box.set_ plain_int
        have y8 : BW wv b8 25 (.bool s7) (.slice A7 L7 c7) := by rw [hwv]; exact BW.set2 u8
        have y9 : BW wv b9 25 (.bool s9) (.slice A9 L9 c9) := by rw [hwv]; exact (u9.far hnb).far hnb
        have hxv : Ext w1 wv := by rw [hwv]; exact (hx9.set_ HBB.out.1).set_ HBB.out.1
        have Y8 := Lib.hid (HZ7.out.kept hk)
        have Y9 := Lib.hid (HZ9.out.kept hk)
        have hsv := hxv.size
        have d1' := hxv.cell q1_0
        have d2' := hxv.cell q1_1
        have f1' := hxv.frozen q1_0 f1_0
        have f2' := hxv.frozen q1_1 f1_1
        have g0 := u8.f0
        have g1 := u8.f1
        have g2 := u8.c0
        have g3 := u8.c1
        clear a0 a1 a2 a3 f80 f81 f90 f91 d1 d2 f1 f2 hw8 hw9 HR8 HR9 HZ7 HZ9
        have t0 := y8.c0
        have t1 := y8.c1
        have t2 := y9.c0
        have t3 := y9.c1
        clear hk u8 u9
        have HW := Lib.hid hwv
        by_cases hm1' : m = 1
        · have hmz : ((m : Int) / 2 == 0) = true := by rw [hm1']; rfl
          have HEQ : Hid (x ^ n = R * S) := by show _ = _; have h5 := HX.out.2.2.1; rw [hm1', Nat.mul_one] at h5; rw [HX.out.1, HX.out.2.1, ← Int.pow_add, h5]
          obtain ⟨r5, r6, hz', hxx⟩ := fin_z (w := w) (B := w1.heap.size) (by omega) hgB (x0c.trans hxv) Y8.out d1' d2'
          have HZ := Lib.hid hz'
          clear hz'
          rw [hwv] at t0 t1 t2 t3 d1' d2' f1' f2'
          clear hwv
          go_wp2_with fail
          rw [← HW.out]
          rw [Exit.noGoto_ret]
          refine bodyPost_ret (v := .tuple #[.agg #[.bool s7, .slice A7 L7 c7], .int .i64 0]) (by simp [results, Try.results39, go_sem, r5, r6]) rfl ?_
          show RetZOK w _ _ _
          rw [HEQ.out]
          exact ⟨_, _, _, _, rfl, HZ.out, hxx⟩
        · have hmz : ((m : Int) / 2 == 0) = false := by rw [beq_eq_false_iff_ne]; omega
          rw [hwv] at t0 t1 t2 t3
          clear hwv
          go_wp2_with fail
          rw [← HW.out]
          clear t0 t1 t2 t3 g0 g1 g2 g3 d1' d2' f1' f2'
          have hbS : dl S.natAbs ≤ 40 := hdS
          refine (mul_z Y9.out.zv Y9.out.zv (by omega) (by omega)).mono ?_
          rintro e3 w10 ⟨s10, A10, c10, L10, rfl, z10, x10⟩
          have HZ10 := Lib.hid (z10.mono (show w1.heap.size ≤ wv.heap.size by omega))
          clear z10
          have v8 := y8.ext x10
          have v9 := y9.ext x10
          have HZ8 := Lib.hid (Y8.out.ext x10)
          have hx10 : Ext w1 w10 := (hxv).trans x10
          have n0 := v9.c0
          have n1 := v9.c1
          have n2 := v9.f0
          have n3 := v9.f1
          go_wp2_with fail
          clear n0 n1 n2 n3
          obtain ⟨ww, hww⟩ : ∃ z : World, z = (w10.setCell ⟨b9, 0, none⟩ (.bool s10)).setCell ⟨b9, 1, none⟩ (.slice A10 L10 c10) := ⟨_, rfl⟩
          rw [← hww]
          have hk : Kept w10 ww := by rw [hww]; exact Kept.set_ (Kept.set_ (Kept.refl _) v9.box plain_int) v9.box.set_ plain_int
          have y8n : BW ww b8 25 (.bool s7) (.slice A7 L7 c7) := by rw [hww]; exact (v8.far hnb.symm).far hnb.symm
          have y9n : BW ww b9 25 (.bool s10) (.slice A10 L10 c10) := by rw [hww]; exact BW.set2 v9
          have hxw : Ext w1 ww := by rw [hww]; exact (hx10.set_ HBB.out.2).set_ HBB.out.2
          have Y8n := Lib.hid (HZ8.out.kept hk)
          have Y9n := Lib.hid (HZ10.out.kept hk)
          clear hww hk v8 v9 HZ8 HZ10
          go_roundg (m / 2)
          case measure => have h5 : m ≤ gk := HK.out; omega
          case rel => exact ⟨m / 2, R * S, S * S, _, _, _, _, _, _, _, _, by go_num, y8n, y9n, Y8n.out, Y9n.out, ⟨r + e, e + e, by rw [HX.out.1, HX.out.2.1, ← Int.pow_add], by rw [HX.out.2.1, ← Int.pow_add], halve_odd HX.out.2.2.1 hodd, by have := HX.out.2.2.2; omega⟩, by omega, Nat.le_refl _, hxw⟩
      · have hb1 : (bits BinOp.and IntKind.i64 (m : Int) 1 != 0) = false := by rw [hbit, show m % 2 = 0 by omega]; rfl
        clear hbit
        by_cases hm0 : m = 0
        · have hmz : ((m : Int) / 2 == 0) = true := by rw [hm0]; rfl
          clear hdR hdS'
          have HEQ : Hid (x ^ n = R) := by show _ = _; have h5 := HX.out.2.2.1; rw [hm0, Nat.mul_zero, Nat.add_zero] at h5; rw [HX.out.1, h5]
          obtain ⟨r5, r6, hz', hxx⟩ := fin_z (w := w) (B := w1.heap.size) (by omega) hgB (hxw1) HR8.out d1 d2
          have HZ := Lib.hid hz'
          clear hz'
          go_wp2_with fail
          rw [Exit.noGoto_ret]
          refine bodyPost_ret (v := .tuple #[.agg #[.bool s8, .slice A8 L8 c8], .int .i64 0]) (by simp [results, Try.results39, go_sem, r5, r6]) rfl ?_
          show RetZOK w _ _ _
          rw [HEQ.out]
          exact ⟨_, _, _, _, rfl, HZ.out, hxx⟩
        · have hmz : ((m : Int) / 2 == 0) = false := by rw [beq_eq_false_iff_ne]; omega
          have hdS := hdS' (by omega)
          clear hdS' hdR
          go_wp2_with fail
          have hbS : dl S.natAbs ≤ 40 := hdS
          refine (mul_z HR9.out.zv HR9.out.zv (by omega) (by omega)).mono ?_
          rintro e3 w10 ⟨s10, A10, c10, L10, rfl, z10, x10⟩
          have HZ10 := Lib.hid (z10.mono (show w1.heap.size ≤ wr.heap.size by omega))
          clear z10
          have v8 := hw8.ext x10
          have v9 := hw9.ext x10
          have HZ8 := Lib.hid (HR8.out.ext x10)
          have hx10 : Ext w1 w10 := (hx).trans x10
          have n0 := v9.c0
          have n1 := v9.c1
          have n2 := v9.f0
          have n3 := v9.f1
          go_wp2_with fail
          clear n0 n1 n2 n3
          obtain ⟨ww, hww⟩ : ∃ z : World, z = (w10.setCell ⟨b9, 0, none⟩ (.bool s10)).setCell ⟨b9, 1, none⟩ (.slice A10 L10 c10) := ⟨_, rfl⟩
          rw [← hww]
          have hk : Kept w10 ww := by rw [hww]; exact Kept.set_ (Kept.set_ (Kept.refl _) v9.box plain_int) v9.box.set_ plain_int
          have y8 : BW ww b8 25 (.bool s8) (.slice A8 L8 c8) := by rw [hww]; exact (v8.far hnb.symm).far hnb.symm
          have y9 : BW ww b9 25 (.bool s10) (.slice A10 L10 c10) := by rw [hww]; exact BW.set2 v9
          have hxw : Ext w1 ww := by rw [hww]; exact (hx10.set_ HBB.out.2).set_ HBB.out.2
          have Y8 := Lib.hid (HZ8.out.kept hk)
          have Y9 := Lib.hid (HZ10.out.kept hk)
          clear hww hk v8 v9 HZ8 HZ10
          go_roundg (m / 2)
          case measure => have h5 : m ≤ gk := HK.out; omega
          case rel => exact ⟨m / 2, R, S * S, _, _, _, _, _, _, _, _, by go_num, y8, y9, Y8.out, Y9.out, ⟨r, e + e, HX.out.1, by rw [HX.out.2.1, ← Int.pow_add], halve_even HX.out.2.2.1 (by omega), by have := HX.out.2.2.2; omega⟩, by omega, Nat.le_refl _, hxw⟩
end Go.Proofs.Ytcccabgeoaidjaa
