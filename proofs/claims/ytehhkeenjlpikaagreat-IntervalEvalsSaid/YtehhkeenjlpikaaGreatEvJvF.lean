/- The loops of the reference of chapter 06: powers and Horner schemes. -/
import Derived.Test.YtehhkeenjlpikaaGreatEvJvE
import Derived.Test.YtehhkeenjlpikaaGreatTail
import Derived.Deep.RegionHeldLaw
import Derived.Deep.LoopGhost
import Derived.Deep.QuietTactic
import Derived.BigQuiet
namespace Go.Proofs.YtehhkeenjlpikaaGreat
open Go.RowKit
/-- A list of fractions of the reference, possibly empty. -/
def CQL (w : World) (A : Option Addr) (K : Nat) (qs : List Rat) : Prop := ∃ b off, (qs = [] ∨ A = some ⟨b, off, none⟩) ∧ CQ w b off K qs
theorem CQL.ext {w w' : World} {A : Option Addr} {K : Nat} {qs : List Rat} (h : CQL w A K qs) (hx : Ext w w') : CQL w' A K qs := by
  obtain ⟨b, off, h1, h2⟩ := h
  exact ⟨b, off, h1, h2.ext hx⟩
/-- A fraction of the reference in a box of the call's own. -/
def QB (w : World) (b K : Nat) (q : Rat) : Prop := ∃ g A c L h B d M, BK w b 36 #[.int .i64 g, .slice A L c, .int .i64 h, .slice B M d] ∧ QR w g A c L h B d M K q
theorem QB.mk {w : World} {b K : Nat} {q : Rat} {g h : Int} {A B : Option Addr} {c L d M : Nat} (hb : BK w b 36 #[.int .i64 g, .slice A L c, .int .i64 h, .slice B M d]) (h1 : QR w g A c L h B d M K q) : QB w b K q := ⟨g, A, c, L, h, B, d, M, hb, h1⟩
theorem hv_cons (x : Rat) (qs : List Rat) (m : Nat) (h : m < qs.length) : hv x (qs.drop m) = hv x (qs.drop (m + 1)) * x + qs[m] := by
  rw [List.drop_eq_getElem_cons h]; rfl
theorem ev_cons' (a b : Rat) (qs : List Rat) (m : Nat) (h : m < qs.length) : (ev a b (qs.drop m)).1 = mlo (ev a b (qs.drop (m + 1))).1 (ev a b (qs.drop (m + 1))).2 a b + qs[m] ∧ (ev a b (qs.drop m)).2 = mhi (ev a b (qs.drop (m + 1))).1 (ev a b (qs.drop (m + 1))).2 a b + qs[m] := by
  rw [List.drop_eq_getElem_cons h]
  exact ⟨rfl, rfl⟩
theorem BK.set8 {w : World} {b : Nat} {T : TypeId} {u0 u1 u2 u3 u4 u5 u6 u7 v0 v1 v2 v3 v4 v5 v6 v7 : Value} (h : BK w b T #[u0, u1, u2, u3, u4, u5, u6, u7]) : BK ((((((((w.setCell ⟨b, 0, none⟩ v0).setCell ⟨b, 1, none⟩ v1).setCell ⟨b, 2, none⟩ v2).setCell ⟨b, 3, none⟩ v3).setCell ⟨b, 4, none⟩ v4).setCell ⟨b, 5, none⟩ v5).setCell ⟨b, 6, none⟩ v6).setCell ⟨b, 7, none⟩ v7) b T #[v0, v1, v2, v3, v4, v5, v6, v7] :=
  (BK.set (i := 7) (u := v7) (vs' := #[v0, v1, v2, v3, v4, v5, v6, v7]) (BK.set (i := 6) (u := v6) (vs' := #[v0, v1, v2, v3, v4, v5, v6, u7]) (BK.set (i := 5) (u := v5) (vs' := #[v0, v1, v2, v3, v4, v5, u6, u7]) (BK.set (i := 4) (u := v4) (vs' := #[v0, v1, v2, v3, v4, u5, u6, u7]) (BK.set (i := 3) (u := v3) (vs' := #[v0, v1, v2, v3, u4, u5, u6, u7]) (BK.set (i := 2) (u := v2) (vs' := #[v0, v1, v2, u3, u4, u5, u6, u7]) (BK.set (i := 1) (u := v1) (vs' := #[v0, v1, u2, u3, u4, u5, u6, u7]) (BK.set (i := 0) (u := v0) (vs' := #[v0, u1, u2, u3, u4, u5, u6, u7]) h rfl) rfl) rfl) rfl) rfl) rfl) rfl) rfl)
theorem BK.far8 {w : World} {b b' : Nat} {T : TypeId} {vs : Array Value} {v0 v1 v2 v3 v4 v5 v6 v7 : Value} (hne : b ≠ b') (h : BK w b T vs) : BK ((((((((w.setCell ⟨b', 0, none⟩ v0).setCell ⟨b', 1, none⟩ v1).setCell ⟨b', 2, none⟩ v2).setCell ⟨b', 3, none⟩ v3).setCell ⟨b', 4, none⟩ v4).setCell ⟨b', 5, none⟩ v5).setCell ⟨b', 6, none⟩ v6).setCell ⟨b', 7, none⟩ v7) b T vs :=
  ((((((((((((((((h).far hne 0 v0)).far hne 1 v1)).far hne 2 v2)).far hne 3 v3)).far hne 4 v4)).far hne 5 v5)).far hne 6 v6)).far hne 7 v7)
set_option maxHeartbeats 4000000 in
set_option maxRecDepth 100000 in
theorem jvalue_r {w : World} {K c0 L0 : Nat} {A0 : Option Addr} {qs : List Rat} {g1 h1 : Int} {A1 B1 : Option Addr} {c1 d1 L1 M1 : Nat} {q1 : Rat} (hc : CQL w A0 K qs) (hL : L0 = qs.length) (h_1 : QR w g1 A1 c1 L1 h1 B1 d1 M1 K q1) (hK1 : 1 ≤ K) (hl : qs.length ≤ 100) (hK : K ≤ 1000) :
    Calls Tryz.prog 22 #[.slice A0 L0 c0, Value.agg #[Value.int IntKind.i64 g1, Value.slice A1 L1 c1, Value.int IntKind.i64 h1, Value.slice B1 M1 d1]] w (RetQ w (1 + qs.length * (K + K + 1)) (hv q1 qs)) := by
  have hL2 : L0 ≤ 100 := by omega
  have HL := Lib.hid hL
  clear hL
  obtain ⟨bl0, off, hA, hc⟩ := hc
  have HA := Lib.hid hA
  clear hA
  go_enter Tryz.func22, Tryz.ntmps22
  go_wp2_with fail
  obtain ⟨w0, hw0⟩ : ∃ z : World, z = ((w.alloc (.cells #[.int .i64 g1, .slice A1 L1 c1, .int .i64 h1, .slice B1 M1 d1] 36)).alloc (.cells #[.int .i64 0, .slice none 0 0, .int .i64 0, .slice none 0 0] 36)) := ⟨_, rfl⟩
  rw [← hw0]
  have bxi : BK w0 (w.heap.size) 36 #[.int .i64 g1, .slice A1 L1 c1, .int .i64 h1, .slice B1 M1 d1] := by rw [hw0]; have h5 := (BK.ext (BK.new w #[.int .i64 g1, .slice A1 L1 c1, .int .i64 h1, .slice B1 M1 d1] 36) (Ext.alloc _ (.cells #[.int .i64 0, .slice none 0 0, .int .i64 0, .slice none 0 0] 36))); simpa only [World.size_alloc] using h5
  have bxr : BK w0 (w.heap.size + 1) 36 #[.int .i64 0, .slice none 0 0, .int .i64 0, .slice none 0 0] := by rw [hw0]; have h5 := (BK.new (w.alloc (.cells #[.int .i64 g1, .slice A1 L1 c1, .int .i64 h1, .slice B1 M1 d1] 36)) #[.int .i64 0, .slice none 0 0, .int .i64 0, .slice none 0 0] 36); simpa only [World.size_alloc] using h5
  have hszw0 : w0.heap.size = w.heap.size + 1 + 1 := by rw [hw0]; simp only [World.size_alloc]
  have xw0 : Ext w w0 := by rw [hw0]; exact ((Ext.alloc _ _).trans (Ext.alloc _ _))
  clear hw0
  refine (jnumber_r (n := 0) (K := 1) (by decide) (by omega) (by omega)).mono ?_
  rintro e w1 ⟨gy, Ay, cy, Ly, hy, By, dy, My, rfl, y, x1⟩
  have szw1 : w0.heap.size ≤ w1.heap.size := x1.size
  replace bxi := bxi.ext x1
  replace bxr := bxr.ext x1
  have HO := Lib.hid y
  clear y
  have ki_0 := bxi.c 0 (.int .i64 g1) rfl
  have ki_1 := bxi.c 1 (.slice A1 L1 c1) rfl
  have ki_2 := bxi.c 2 (.int .i64 h1) rfl
  have ki_3 := bxi.c 3 (.slice B1 M1 d1) rfl
  have kr_0 := bxr.c 0 (.int .i64 0) rfl
  have kr_1 := bxr.c 1 (.slice none 0 0) rfl
  have kr_2 := bxr.c 2 (.int .i64 0) rfl
  have kr_3 := bxr.c 3 (.slice none 0 0) rfl
  have t1i_0 := fun (o0 : Obj) => ((Ext.alloc w1 o0).cell (bxi.c 0 (.int .i64 g1) rfl))
  have t1i_1 := fun (o0 : Obj) => ((Ext.alloc w1 o0).cell (bxi.c 1 (.slice A1 L1 c1) rfl))
  have t1i_2 := fun (o0 : Obj) => ((Ext.alloc w1 o0).cell (bxi.c 2 (.int .i64 h1) rfl))
  have t1i_3 := fun (o0 : Obj) => ((Ext.alloc w1 o0).cell (bxi.c 3 (.slice B1 M1 d1) rfl))
  have t1r_0 := fun (o0 : Obj) => ((Ext.alloc w1 o0).cell (bxr.c 0 (.int .i64 0) rfl))
  have t1r_1 := fun (o0 : Obj) => ((Ext.alloc w1 o0).cell (bxr.c 1 (.slice none 0 0) rfl))
  have t1r_2 := fun (o0 : Obj) => ((Ext.alloc w1 o0).cell (bxr.c 2 (.int .i64 0) rfl))
  have t1r_3 := fun (o0 : Obj) => ((Ext.alloc w1 o0).cell (bxr.c 3 (.slice none 0 0) rfl))
  go_wp2_with fail
  clear ki_0 ki_1 ki_2 ki_3 kr_0 kr_1 kr_2 kr_3 t1i_0 t1i_1 t1i_2 t1i_3 t1r_0 t1r_1 t1r_2 t1r_3
  obtain ⟨w2, hw⟩ : ∃ z : World, z = (w1.alloc (.cells #[.int .i64 gy, .slice Ay Ly cy, .int .i64 hy, .slice By My dy] 36)) := ⟨_, rfl⟩
  rw [← hw]
  have x2 : Ext w1 w2 := by rw [hw]; exact (Ext.alloc _ _)
  replace bxi := bxi.ext x2
  replace bxr := bxr.ext x2
  have bxv : BK w2 (w1.heap.size) 36 #[.int .i64 gy, .slice Ay Ly cy, .int .i64 hy, .slice By My dy] := by rw [hw]; have h5 := (BK.new w1 #[.int .i64 gy, .slice Ay Ly cy, .int .i64 hy, .slice By My dy] 36); simpa only [World.size_alloc] using h5
  have szw2 : w2.heap.size = w1.heap.size + 1 := by rw [hw]; simp only [World.size_alloc]
  clear hw
  obtain ⟨bv, hbv⟩ : ∃ b, b = w1.heap.size := ⟨_, rfl⟩
  have bxv0 : BK w2 bv 36 #[.int .i64 gy, .slice Ay Ly cy, .int .i64 hy, .slice By My dy] := by rw [hbv]; exact bxv
  have HV : Hid (QB w2 bv 1 (hv q1 (qs.drop qs.length))) := by
    show QB _ _ _ _
    rw [List.drop_length]
    exact QB.mk bxv0 (HO.out.ext x2)
  have xwv : Ext w w2 := (by with_reducible repeat' first | exact Ext.refl _ | assumption | apply Ext.alloc_r | apply Ext.drew_r | apply Ext.drewN_r | refine Ext.trans ?_ ‹Ext _ _›)
  have bxr0 := bxr
  have bxi0 := bxi
  clear HO bxv bxv0 bxr bxi
  rw [← hbv]
  have hbv2 : w.heap.size + 1 + 1 ≤ bv := by omega
  clear hbv
  go_loopg [6] qs.length (fun kk iv wr => ∃ (j D : Nat) (z : Int), iv = .int .i64 z ∧ z + 1 = (j : Int) ∧ j ≤ qs.length ∧ Hid (D = 1 + (qs.length - j) * (K + K + 1)) ∧ Hid (QB wr bv D (hv q1 (qs.drop j))) ∧ Hid (j ≤ kk) ∧ BK wr w.heap.size 36 #[.int .i64 g1, .slice A1 L1 c1, .int .i64 h1, .slice B1 M1 d1] ∧ BK wr (w.heap.size + 1) 36 #[.int .i64 0, .slice none 0 0, .int .i64 0, .slice none 0 0] ∧ Ext w wr)
  case atStart => exact ⟨qs.length, 1, (L0 : Int) - 1, by go_num, by have h5 := HL.out; omega, Nat.le_refl _, (by show _ = _; rw [Nat.sub_self, Nat.zero_mul]), HV, Nat.le_refl _, bxi0, bxr0, xwv⟩
  case round =>
    clear HV bxi0 bxr0 xwv
    obtain ⟨j, D, z, rfl, hz, hj, HD, HVB, HK, bxi, bxr, hxr⟩ := hrel
    by_cases hlt : 1 ≤ j
    · obtain ⟨m, rfl⟩ : ∃ m, j = m + 1 := ⟨j - 1, by omega⟩
      obtain rfl : z = (m : Int) := by omega
      clear hz
      obtain rfl : A0 = some ⟨bl0, off, none⟩ := by
        rcases HA.out with h5 | h5
        · rw [h5] at hj; simp at hj
        · exact h5
      have hm0 : (0 : Int) ≤ (m : Int) := by omega
      have hm1 : (m : Int) < (L0 : Int) := by have := HL.out; omega
      have hDb : D + (K + K + 1) ≤ 1000000 := by
        have h5 := HD.out
        have h6 : (qs.length - (m + 1) + 1) * (K + K + 1) ≤ 100 * (K + K + 1) := Nat.mul_le_mul_right _ (by omega)
        rw [Nat.succ_mul] at h6
        omega
      have HD2 : Hid (D + K + K + 1 = 1 + (qs.length - m) * (K + K + 1)) := by
        show _ = _
        have h5 := HD.out
        rw [show qs.length - m = qs.length - (m + 1) + 1 by omega, Nat.succ_mul]
        omega
      obtain ⟨gla, Ala, cla, Lla, hla, Bla, dla, Mla, bxv, lo⟩ := HVB.out
      obtain ⟨ge, Ae, ce, Le, he, Be, de, Me, k0_0, k0_1, k0_2, k0_3, hqe⟩ := hc m (by omega)
      have ibv := bxv.isBox
      have HEV := Lib.hid (hv_cons q1 qs m (by omega))
      have szr := hxr.size
      have nib : w.heap.size ≠ bv := by omega
      have nrb : w.heap.size + 1 ≠ bv := by omega
      go_upto_region 5 with fail
      have kv_0 := bxv.c 0 (.int .i64 gla) rfl
      have fv_0 := bxv.f 0
      have kv_1 := bxv.c 1 (.slice Ala Lla cla) rfl
      have fv_1 := bxv.f 1
      have kv_2 := bxv.c 2 (.int .i64 hla) rfl
      have fv_2 := bxv.f 2
      have kv_3 := bxv.c 3 (.slice Bla Mla dla) rfl
      have fv_3 := bxv.f 3
      have ki_0 := bxi.c 0 (.int .i64 g1) rfl
      have ki_1 := bxi.c 1 (.slice A1 L1 c1) rfl
      have ki_2 := bxi.c 2 (.int .i64 h1) rfl
      have ki_3 := bxi.c 3 (.slice B1 M1 d1) rfl
      have kc_0 := hxr.cell k0_0
      have kc_1 := hxr.cell k0_1
      have kc_2 := hxr.cell k0_2
      have kc_3 := hxr.cell k0_3
      have HKS : Hid (∀ w', Ext wr w' → (w'.cell? ⟨bv, 0, none⟩ = some (.int .i64 gla) ∧ w'.cell? ⟨bv, 1, none⟩ = some (.slice Ala Lla cla) ∧ w'.cell? ⟨bv, 2, none⟩ = some (.int .i64 hla) ∧ w'.cell? ⟨bv, 3, none⟩ = some (.slice Bla Mla dla) ∧ w'.cell? ⟨w.heap.size, 0, none⟩ = some (.int .i64 g1) ∧ w'.cell? ⟨w.heap.size, 1, none⟩ = some (.slice A1 L1 c1) ∧ w'.cell? ⟨w.heap.size, 2, none⟩ = some (.int .i64 h1) ∧ w'.cell? ⟨w.heap.size, 3, none⟩ = some (.slice B1 M1 d1) ∧ w'.cell? ⟨bl0, off + m * 4, none⟩ = some (.int .i64 ge) ∧ w'.cell? ⟨bl0, off + m * 4 + 1, none⟩ = some (.slice Ae Le ce) ∧ w'.cell? ⟨bl0, off + m * 4 + 2, none⟩ = some (.int .i64 he) ∧ w'.cell? ⟨bl0, off + m * 4 + 3, none⟩ = some (.slice Be Me de))) := fun w' hk => ⟨hk.cell kv_0, hk.cell kv_1, hk.cell kv_2, hk.cell kv_3, hk.cell ki_0, hk.cell ki_1, hk.cell ki_2, hk.cell ki_3, hk.cell kc_0, hk.cell kc_1, hk.cell kc_2, hk.cell kc_3⟩
      refine wp_region_tail 8 (fun w' => w'.cell? ⟨bv, 0, none⟩ = some (.int .i64 gla) ∧ w'.cell? ⟨bv, 1, none⟩ = some (.slice Ala Lla cla) ∧ w'.cell? ⟨bv, 2, none⟩ = some (.int .i64 hla) ∧ w'.cell? ⟨bv, 3, none⟩ = some (.slice Bla Mla dla) ∧ w'.cell? ⟨w.heap.size, 0, none⟩ = some (.int .i64 g1) ∧ w'.cell? ⟨w.heap.size, 1, none⟩ = some (.slice A1 L1 c1) ∧ w'.cell? ⟨w.heap.size, 2, none⟩ = some (.int .i64 h1) ∧ w'.cell? ⟨w.heap.size, 3, none⟩ = some (.slice B1 M1 d1) ∧ w'.cell? ⟨bl0, off + m * 4, none⟩ = some (.int .i64 ge) ∧ w'.cell? ⟨bl0, off + m * 4 + 1, none⟩ = some (.slice Ae Le ce) ∧ w'.cell? ⟨bl0, off + m * 4 + 2, none⟩ = some (.int .i64 he) ∧ w'.cell? ⟨bl0, off + m * 4 + 3, none⟩ = some (.slice Be Me de)) (by kernel_rfl) ?_ (fun hHeld inv => ?_)
      · (with_reducible refine HKS.out _ ?_; (with_reducible repeat' first | exact Ext.refl _ | assumption | apply Ext.alloc_r | apply Ext.drew_r | apply Ext.drewN_r | refine Ext.trans ?_ ‹Ext _ _›))
      refine wpAnyT_take (i := 0) (v := ?tv0) rfl (by kernel_rfl) (by kernel_rfl) (by kernel_rfl) (by kernel_rfl) inv (fun _ _ _ h => h) (Or.inl ⟨by rfl, ?th0⟩) (by assumption) (fun inv => ?tr0)
      case th0 =>
        intro w5 hSw
        (try dsimp only at hSw)
        go_simp
        (try with_reducible rfl)
      try simp only [Act.put, List.setIfInBounds_toArray]
      refine wpAnyT_take (i := 1) (v := ?tv1) rfl (by kernel_rfl) (by kernel_rfl) (by kernel_rfl) (by kernel_rfl) inv (fun _ _ _ h => h) (Or.inl ⟨by rfl, ?th1⟩) (by assumption) (fun inv => ?tr1)
      case th1 =>
        intro w5 hSw
        (try dsimp only at hSw)
        go_simp
        (try with_reducible rfl)
      try simp only [Act.put]
      refine wpAnyT_take (i := 3) (v := ?tv3) rfl (by kernel_rfl) (by kernel_rfl) (by kernel_rfl) (by kernel_rfl) inv (fun _ _ _ h => h) (Or.inl ⟨by rfl, ?th3⟩) (by assumption) (fun inv => ?tr3)
      case th3 =>
        intro w5 hSw
        (try dsimp only at hSw)
        go_simp
        (try with_reducible rfl)
      try simp only [Act.put]
      refine wpAnyT_take (i := 4) (v := ?tv4) rfl (by kernel_rfl) (by kernel_rfl) (by kernel_rfl) (by kernel_rfl) inv (fun _ _ _ h => h) (Or.inl ⟨by rfl, ?th4⟩) (by assumption) (fun inv => ?tr4)
      case th4 =>
        intro w5 hSw
        (try dsimp only at hSw)
        go_simp
        (try with_reducible rfl)
      try simp only [Act.put]
      refine wpAnyT_take (i := 5) (v := ?tv5) rfl (by kernel_rfl) (by kernel_rfl) (by kernel_rfl) (by kernel_rfl) inv (fun _ _ _ h => h) (Or.inl ⟨by rfl, ?th5⟩) (by assumption) (fun inv => ?tr5)
      case th5 =>
        intro w5 hSw
        (try dsimp only at hSw)
        go_simp
        (try with_reducible rfl)
      try simp only [Act.put]
      refine wpAnyT_take (i := 6) (v := ?tv6) rfl (by kernel_rfl) (by kernel_rfl) (by kernel_rfl) (by kernel_rfl) inv (fun _ _ _ h => h) (Or.inl ⟨by rfl, ?th6⟩) (by assumption) (fun inv => ?tr6)
      case th6 =>
        intro w5 hSw
        (try dsimp only at hSw)
        go_simp
        (try with_reducible rfl)
      try simp only [Act.put]
      refine wpAnyT_head (i := 2) (by kernel_rfl) rfl (by kernel_rfl) inv (fun K hK => ?_)
      clear inv
      go_simp
      (go_at_call 50; refine (qmul_r (lo.ext (by with_reducible repeat' first | exact Ext.refl _ | assumption | apply Ext.alloc_r | apply Ext.drew_r | apply Ext.drewN_r | refine Ext.trans ?_ ‹Ext _ _›)) (h_1.ext (by with_reducible repeat' first | exact Ext.refl _ | assumption | apply Ext.alloc_r | apply Ext.drew_r | apply Ext.drewN_r | refine Ext.trans ?_ ‹Ext _ _›)) (by omega) (by omega)).mono ?_; rintro e w1 ⟨gu, Au, cu, Lu, hu, Bu, du, Mu, rfl, u, x1⟩)
      refine hK.out _ _ ?_ (fun hHeld inv => ?_)
      · clear hK; (try dsimp only)
        (with_reducible refine HKS.out _ ?_; (with_reducible repeat' first | exact Ext.refl _ | assumption | apply Ext.alloc_r | apply Ext.drew_r | apply Ext.drewN_r | refine Ext.trans ?_ ‹Ext _ _›))
      clear hK K
      try simp only [Act.put, List.setIfInBounds_toArray, List.set_cons_zero, List.set_cons_succ]
      refine wpAnyT_head (i := 7) (by kernel_rfl) rfl (by kernel_rfl) inv (fun K hK => ?_)
      clear inv
      go_simp
      (go_at_call 32; refine (qadd_r (u.ext (by with_reducible repeat' first | exact Ext.refl _ | assumption | apply Ext.alloc_r | apply Ext.drew_r | apply Ext.drewN_r | refine Ext.trans ?_ ‹Ext _ _›)) (hqe.ext (by with_reducible repeat' first | exact Ext.refl _ | assumption | apply Ext.alloc_r | apply Ext.drew_r | apply Ext.drewN_r | refine Ext.trans ?_ ‹Ext _ _›)) (by omega) (by omega)).mono ?_; rintro e w2 ⟨gn, An, cn, Ln, hn, Bn, dn, Mn, rfl, n, x2⟩; have yln : Ext wr w2 := (by with_reducible repeat' first | exact Ext.refl _ | assumption | apply Ext.alloc_r | apply Ext.drew_r | apply Ext.drewN_r | refine Ext.trans ?_ ‹Ext _ _›); have vn_0 := (bxv.ext yln).c 0 (.int .i64 gla) rfl; have un_0 := (bxv.ext yln).f 0; have vn_1 := (bxv.ext yln).c 1 (.slice Ala Lla cla) rfl; have un_1 := (bxv.ext yln).f 1; have vn_2 := (bxv.ext yln).c 2 (.int .i64 hla) rfl; have un_2 := (bxv.ext yln).f 2; have vn_3 := (bxv.ext yln).c 3 (.slice Bla Mla dla) rfl; have un_3 := (bxv.ext yln).f 3; clear yln)
      refine hK.out _ _ ?_ (fun hHeld inv => ?_)
      · clear hK; (try dsimp only)
        (with_reducible refine HKS.out _ ?_; (with_reducible repeat' first | exact Ext.refl _ | assumption | apply Ext.alloc_r | apply Ext.drew_r | apply Ext.drewN_r | refine Ext.trans ?_ ‹Ext _ _›))
      clear hK K
      try simp only [Act.put, List.setIfInBounds_toArray, List.set_cons_zero, List.set_cons_succ]
      refine wpAnyT_tail (i := 8) (by kernel_rfl) rfl (by kernel_rfl) (fun K hK => ?_)
      (try clear inv)
      go_simp
      refine hK.out _ _ ?_
      clear hK K
      try simp only [Act.put, List.setIfInBounds_toArray, List.set_cons_zero, List.set_cons_succ]
      refine wpAnyT_done (by kernel_rfl) ?_ _
      clear HKS
      go_wp2_with fail
      go_roundg m
      case measure => have h5 : m + 1 ≤ gk := HK.out; omega
      case rel =>
        refine ⟨m, D + K + K + 1, (m : Int) - 1, by go_num, by omega, by omega, HD2, ?_, Nat.le_refl _, ?_, ?_, ?_⟩
        · show QB _ _ _ _
          rw [HEV.out]
          refine QB.mk (g := gn) (A := An) (c := cn) (L := Ln) (h := hn) (B := Bn) (d := dn) (M := Mn) ?_ (n.kept ?_)
          · (repeat' (first | with_reducible assumption | with_reducible apply BK.set4 | with_reducible apply BK.alloc_ | with_reducible apply BK.drew_ | (with_reducible apply BK.far4; (case hne => (first | assumption | omega))) | with_reducible refine BK.ext ?_ ‹Ext _ _›))
          · (repeat' (first | with_reducible exact Kept.refl _ | with_reducible apply Kept.alloc_r | with_reducible apply Kept.drew_r | (with_reducible apply Kept.setQ; (case hb => ((repeat' (first | with_reducible assumption | with_reducible apply IsBox.set_ | (with_reducible apply IsBox.new; (first | (with_reducible rfl) | simp); done) | with_reducible apply IsBox.alloc_ | with_reducible apply IsBox.drew_ | with_reducible refine IsBox.ext ?_ ‹Ext _ _›)); done))) | with_reducible refine Kept.trans ?_ (Ext.kept ‹Ext _ _›)))
        · (repeat' (first | with_reducible assumption | with_reducible apply BK.set4 | with_reducible apply BK.alloc_ | with_reducible apply BK.drew_ | (with_reducible apply BK.far4; (case hne => (first | assumption | omega))) | with_reducible refine BK.ext ?_ ‹Ext _ _›))
        · (repeat' (first | with_reducible assumption | with_reducible apply BK.set4 | with_reducible apply BK.alloc_ | with_reducible apply BK.drew_ | (with_reducible apply BK.far4; (case hne => (first | assumption | omega))) | with_reducible refine BK.ext ?_ ‹Ext _ _›))
        · have hxz := hxr
          (repeat' (first | with_reducible exact Ext.refl _ | with_reducible assumption | with_reducible apply Ext.alloc_r | with_reducible apply Ext.drew_r | with_reducible apply Ext.drewN_r | with_reducible apply Ext.set_r | with_reducible exact Nat.le_refl _ | omega | with_reducible refine Ext.trans ?_ ‹Ext _ _›))
    · have hj0 : j = 0 := by omega
      have HD2 : Hid (D = 1 + qs.length * (K + K + 1)) := by
        show _ = _
        have h5 := HD.out
        rw [hj0, Nat.sub_zero] at h5
        exact h5
      obtain ⟨gla, Ala, cla, Lla, hla, Bla, dla, Mla, bxv, lo⟩ := HVB.out
      have szr := hxr.size
      have hz2 : z < 0 := by omega
      have HE : Hid (hv q1 (qs.drop j) = hv q1 qs) := by show _ = _; rw [hj0, List.drop_zero]
      clear HVB hj0 hz hlt bxi HA hc
      have kv_0 := bxv.c 0 (.int .i64 gla) rfl
      have kv_1 := bxv.c 1 (.slice Ala Lla cla) rfl
      have kv_2 := bxv.c 2 (.int .i64 hla) rfl
      have kv_3 := bxv.c 3 (.slice Bla Mla dla) rfl
      have kr_0 := bxr.c 0 (.int .i64 0) rfl
      have fr_0 := bxr.f 0
      have kr_1 := bxr.c 1 (.slice none 0 0) rfl
      have fr_1 := bxr.f 1
      have kr_2 := bxr.c 2 (.int .i64 0) rfl
      have fr_2 := bxr.f 2
      have kr_3 := bxr.c 3 (.slice none 0 0) rfl
      have fr_3 := bxr.f 3
      go_wp2_with fail
      clear kv_0 kv_1 kv_2 kv_3 kr_0 fr_0 kr_1 fr_1 kr_2 fr_2 kr_3 fr_3
      obtain ⟨w3, hw⟩ : ∃ z : World, z = ((((wr.setCell ⟨(w.heap.size + 1), 0, none⟩ (.int .i64 gla)).setCell ⟨(w.heap.size + 1), 1, none⟩ (.slice Ala Lla cla)).setCell ⟨(w.heap.size + 1), 2, none⟩ (.int .i64 hla)).setCell ⟨(w.heap.size + 1), 3, none⟩ (.slice Bla Mla dla)) := ⟨_, rfl⟩
      rw [← hw]
      have kw3 : Kept wr w3 := by rw [hw]; exact (Kept.set_ (Kept.set_ (Kept.set_ (Kept.set_ (Kept.refl _) bxr.isBox plain_Q) (IsBox.set_ bxr.isBox) plain_Q) (IsBox.set_ (IsBox.set_ bxr.isBox)) plain_Q) (IsBox.set_ (IsBox.set_ (IsBox.set_ bxr.isBox))) plain_Q)
      have nbv : BK w3 (bv) 36 #[.int .i64 gla, .slice Ala Lla cla, .int .i64 hla, .slice Bla Mla dla] := by rw [hw]; exact (BK.far (BK.far (BK.far (BK.far bxv (show bv ≠ (w.heap.size + 1) by omega) 0 _) (show bv ≠ (w.heap.size + 1) by omega) 1 _) (show bv ≠ (w.heap.size + 1) by omega) 2 _) (show bv ≠ (w.heap.size + 1) by omega) 3 _)
      have nbr : BK w3 ((w.heap.size + 1)) 36 #[.int .i64 gla, .slice Ala Lla cla, .int .i64 hla, .slice Bla Mla dla] := by rw [hw]; exact (BK.set (i := 3) (u := .slice Bla Mla dla) (vs' := #[.int .i64 gla, .slice Ala Lla cla, .int .i64 hla, .slice Bla Mla dla]) (BK.set (i := 2) (u := .int .i64 hla) (vs' := #[.int .i64 gla, .slice Ala Lla cla, .int .i64 hla, .slice none 0 0]) (BK.set (i := 1) (u := .slice Ala Lla cla) (vs' := #[.int .i64 gla, .slice Ala Lla cla, .int .i64 0, .slice none 0 0]) (BK.set (i := 0) (u := .int .i64 gla) (vs' := #[.int .i64 gla, .slice none 0 0, .int .i64 0, .slice none 0 0]) bxr rfl) rfl) rfl) rfl)
      have x3 : Ext w w3 := by rw [hw]; have hxp : Ext w wr := (by with_reducible repeat' first | exact Ext.refl _ | assumption | apply Ext.alloc_r | apply Ext.drew_r | apply Ext.drewN_r | refine Ext.trans ?_ ‹Ext _ _›); exact (Ext.set_ (Ext.set_ (Ext.set_ (Ext.set_ hxp (show _ ≤ (w.heap.size + 1) by omega)) (show _ ≤ (w.heap.size + 1) by omega)) (show _ ≤ (w.heap.size + 1) by omega)) (show _ ≤ (w.heap.size + 1) by omega))
      clear bxv
      clear bxr
      have bxv := nbv
      clear nbv
      have bxr := nbr
      clear nbr
      have szw3 : w3.heap.size = wr.heap.size := by rw [hw]; simp
      replace lo := (lo.ext (by with_reducible repeat' first | exact Ext.refl _ | assumption | apply Ext.alloc_r | apply Ext.drew_r | apply Ext.drewN_r | refine Ext.trans ?_ ‹Ext _ _›)).kept kw3
      clear hw kw3
      have HU := Lib.hid lo
      clear lo
      have kr_0 := bxr.c 0 (.int .i64 gla) rfl
      have kr_1 := bxr.c 1 (.slice Ala Lla cla) rfl
      have kr_2 := bxr.c 2 (.int .i64 hla) rfl
      have kr_3 := bxr.c 3 (.slice Bla Mla dla) rfl
      refine bodyPost_ret (v := Value.agg #[Value.int IntKind.i64 gla, Value.slice Ala Lla cla, Value.int IntKind.i64 hla, Value.slice Bla Mla dla]) (by simp [results, Tryz.results22, go_sem, kr_0, kr_1, kr_2, kr_3]) rfl ?_
      exact ⟨_, _, _, _, _, _, _, _, rfl, by rw [← HE.out, ← HD2.out]; exact HU.out, x3⟩
set_option maxHeartbeats 4000000 in
set_option maxRecDepth 100000 in
theorem jeval_r {w : World} {K c0 L0 : Nat} {A0 : Option Addr} {qs : List Rat} {g1 h1 g2 h2 : Int} {A1 B1 A2 B2 : Option Addr} {c1 d1 L1 M1 c2 d2 L2 M2 : Nat} {q1 q2 : Rat} (hc : CQL w A0 K qs) (hL : L0 = qs.length) (h_1 : QR w g1 A1 c1 L1 h1 B1 d1 M1 K q1) (h_2 : QR w g2 A2 c2 L2 h2 B2 d2 M2 K q2) (hK1 : 1 ≤ K) (hl : qs.length ≤ 100) (hK : K ≤ 1000) :
    Calls Tryz.prog 20 #[.slice A0 L0 c0, Value.agg #[Value.int IntKind.i64 g1, Value.slice A1 L1 c1, Value.int IntKind.i64 h1, Value.slice B1 M1 d1, Value.int IntKind.i64 g2, Value.slice A2 L2 c2, Value.int IntKind.i64 h2, Value.slice B2 M2 d2]] w (RetJ w (1 + qs.length * (K + K + 1)) (ev q1 q2 qs).1 (ev q1 q2 qs).2) := by
  have hL2 : L0 ≤ 100 := by omega
  have HL := Lib.hid hL
  clear hL
  obtain ⟨bl0, off, hA, hc⟩ := hc
  have HA := Lib.hid hA
  clear hA
  go_enter Tryz.func20, Tryz.ntmps20
  go_wp2_with fail
  obtain ⟨w0, hw0⟩ : ∃ z : World, z = ((w.alloc (.cells #[.int .i64 g1, .slice A1 L1 c1, .int .i64 h1, .slice B1 M1 d1, .int .i64 g2, .slice A2 L2 c2, .int .i64 h2, .slice B2 M2 d2] 38)).alloc (.cells #[.int .i64 0, .slice none 0 0, .int .i64 0, .slice none 0 0, .int .i64 0, .slice none 0 0, .int .i64 0, .slice none 0 0] 38)) := ⟨_, rfl⟩
  rw [← hw0]
  have bxi : BK w0 (w.heap.size) 38 #[.int .i64 g1, .slice A1 L1 c1, .int .i64 h1, .slice B1 M1 d1, .int .i64 g2, .slice A2 L2 c2, .int .i64 h2, .slice B2 M2 d2] := by rw [hw0]; have h5 := (BK.ext (BK.new w #[.int .i64 g1, .slice A1 L1 c1, .int .i64 h1, .slice B1 M1 d1, .int .i64 g2, .slice A2 L2 c2, .int .i64 h2, .slice B2 M2 d2] 38) (Ext.alloc _ (.cells #[.int .i64 0, .slice none 0 0, .int .i64 0, .slice none 0 0, .int .i64 0, .slice none 0 0, .int .i64 0, .slice none 0 0] 38))); simpa only [World.size_alloc] using h5
  have bxr : BK w0 (w.heap.size + 1) 38 #[.int .i64 0, .slice none 0 0, .int .i64 0, .slice none 0 0, .int .i64 0, .slice none 0 0, .int .i64 0, .slice none 0 0] := by rw [hw0]; have h5 := (BK.new (w.alloc (.cells #[.int .i64 g1, .slice A1 L1 c1, .int .i64 h1, .slice B1 M1 d1, .int .i64 g2, .slice A2 L2 c2, .int .i64 h2, .slice B2 M2 d2] 38)) #[.int .i64 0, .slice none 0 0, .int .i64 0, .slice none 0 0, .int .i64 0, .slice none 0 0, .int .i64 0, .slice none 0 0] 38); simpa only [World.size_alloc] using h5
  have hszw0 : w0.heap.size = w.heap.size + 1 + 1 := by rw [hw0]; simp only [World.size_alloc]
  have xw0 : Ext w w0 := by rw [hw0]; exact ((Ext.alloc _ _).trans (Ext.alloc _ _))
  clear hw0
  refine (jnumber_r (n := 0) (K := 1) (by decide) (by omega) (by omega)).mono ?_
  rintro e w1 ⟨gy, Ay, cy, Ly, hy, By, dy, My, rfl, y, x1⟩
  have szw1 : w0.heap.size ≤ w1.heap.size := x1.size
  replace bxi := bxi.ext x1
  replace bxr := bxr.ext x1
  have HO := Lib.hid y
  clear y
  have ki_0 := bxi.c 0 (.int .i64 g1) rfl
  have ki_1 := bxi.c 1 (.slice A1 L1 c1) rfl
  have ki_2 := bxi.c 2 (.int .i64 h1) rfl
  have ki_3 := bxi.c 3 (.slice B1 M1 d1) rfl
  have ki_4 := bxi.c 4 (.int .i64 g2) rfl
  have ki_5 := bxi.c 5 (.slice A2 L2 c2) rfl
  have ki_6 := bxi.c 6 (.int .i64 h2) rfl
  have ki_7 := bxi.c 7 (.slice B2 M2 d2) rfl
  have kr_0 := bxr.c 0 (.int .i64 0) rfl
  have kr_1 := bxr.c 1 (.slice none 0 0) rfl
  have kr_2 := bxr.c 2 (.int .i64 0) rfl
  have kr_3 := bxr.c 3 (.slice none 0 0) rfl
  have kr_4 := bxr.c 4 (.int .i64 0) rfl
  have kr_5 := bxr.c 5 (.slice none 0 0) rfl
  have kr_6 := bxr.c 6 (.int .i64 0) rfl
  have kr_7 := bxr.c 7 (.slice none 0 0) rfl
  go_wp2_with fail
  clear ki_0 ki_1 ki_2 ki_3 ki_4 ki_5 ki_6 ki_7 kr_0 kr_1 kr_2 kr_3 kr_4 kr_5 kr_6 kr_7
  refine (jpoint_r (HO.out.ext (by with_reducible repeat' first | exact Ext.refl _ | assumption | apply Ext.alloc_r | apply Ext.drew_r | apply Ext.drewN_r | refine Ext.trans ?_ ‹Ext _ _›))).mono ?_
  rintro e w2 ⟨gpa, Apa, cpa, Lpa, hpa, Bpa, dpa, Mpa, gpb, Apb, cpb, Lpb, hpb, Bpb, dpb, Mpb, rfl, pa, pb, x2⟩
  have szw2 : w1.heap.size ≤ w2.heap.size := x2.size
  replace bxi := bxi.ext x2
  replace bxr := bxr.ext x2
  have HP := Lib.hid (And.intro pa pb)
  clear pa pb HO
  have ki_0 := bxi.c 0 (.int .i64 g1) rfl
  have ki_1 := bxi.c 1 (.slice A1 L1 c1) rfl
  have ki_2 := bxi.c 2 (.int .i64 h1) rfl
  have ki_3 := bxi.c 3 (.slice B1 M1 d1) rfl
  have ki_4 := bxi.c 4 (.int .i64 g2) rfl
  have ki_5 := bxi.c 5 (.slice A2 L2 c2) rfl
  have ki_6 := bxi.c 6 (.int .i64 h2) rfl
  have ki_7 := bxi.c 7 (.slice B2 M2 d2) rfl
  have kr_0 := bxr.c 0 (.int .i64 0) rfl
  have kr_1 := bxr.c 1 (.slice none 0 0) rfl
  have kr_2 := bxr.c 2 (.int .i64 0) rfl
  have kr_3 := bxr.c 3 (.slice none 0 0) rfl
  have kr_4 := bxr.c 4 (.int .i64 0) rfl
  have kr_5 := bxr.c 5 (.slice none 0 0) rfl
  have kr_6 := bxr.c 6 (.int .i64 0) rfl
  have kr_7 := bxr.c 7 (.slice none 0 0) rfl
  have t1i_0 := fun (o0 : Obj) => ((Ext.alloc w2 o0).cell (bxi.c 0 (.int .i64 g1) rfl))
  have t1i_1 := fun (o0 : Obj) => ((Ext.alloc w2 o0).cell (bxi.c 1 (.slice A1 L1 c1) rfl))
  have t1i_2 := fun (o0 : Obj) => ((Ext.alloc w2 o0).cell (bxi.c 2 (.int .i64 h1) rfl))
  have t1i_3 := fun (o0 : Obj) => ((Ext.alloc w2 o0).cell (bxi.c 3 (.slice B1 M1 d1) rfl))
  have t1i_4 := fun (o0 : Obj) => ((Ext.alloc w2 o0).cell (bxi.c 4 (.int .i64 g2) rfl))
  have t1i_5 := fun (o0 : Obj) => ((Ext.alloc w2 o0).cell (bxi.c 5 (.slice A2 L2 c2) rfl))
  have t1i_6 := fun (o0 : Obj) => ((Ext.alloc w2 o0).cell (bxi.c 6 (.int .i64 h2) rfl))
  have t1i_7 := fun (o0 : Obj) => ((Ext.alloc w2 o0).cell (bxi.c 7 (.slice B2 M2 d2) rfl))
  have t1r_0 := fun (o0 : Obj) => ((Ext.alloc w2 o0).cell (bxr.c 0 (.int .i64 0) rfl))
  have t1r_1 := fun (o0 : Obj) => ((Ext.alloc w2 o0).cell (bxr.c 1 (.slice none 0 0) rfl))
  have t1r_2 := fun (o0 : Obj) => ((Ext.alloc w2 o0).cell (bxr.c 2 (.int .i64 0) rfl))
  have t1r_3 := fun (o0 : Obj) => ((Ext.alloc w2 o0).cell (bxr.c 3 (.slice none 0 0) rfl))
  have t1r_4 := fun (o0 : Obj) => ((Ext.alloc w2 o0).cell (bxr.c 4 (.int .i64 0) rfl))
  have t1r_5 := fun (o0 : Obj) => ((Ext.alloc w2 o0).cell (bxr.c 5 (.slice none 0 0) rfl))
  have t1r_6 := fun (o0 : Obj) => ((Ext.alloc w2 o0).cell (bxr.c 6 (.int .i64 0) rfl))
  have t1r_7 := fun (o0 : Obj) => ((Ext.alloc w2 o0).cell (bxr.c 7 (.slice none 0 0) rfl))
  go_wp2_with fail
  clear ki_0 ki_1 ki_2 ki_3 ki_4 ki_5 ki_6 ki_7 kr_0 kr_1 kr_2 kr_3 kr_4 kr_5 kr_6 kr_7 t1i_0 t1i_1 t1i_2 t1i_3 t1i_4 t1i_5 t1i_6 t1i_7 t1r_0 t1r_1 t1r_2 t1r_3 t1r_4 t1r_5 t1r_6 t1r_7
  obtain ⟨w3, hw⟩ : ∃ z : World, z = (w2.alloc (.cells #[.int .i64 gpa, .slice Apa Lpa cpa, .int .i64 hpa, .slice Bpa Mpa dpa, .int .i64 gpb, .slice Apb Lpb cpb, .int .i64 hpb, .slice Bpb Mpb dpb] 38)) := ⟨_, rfl⟩
  rw [← hw]
  have x3 : Ext w2 w3 := by rw [hw]; exact (Ext.alloc _ _)
  replace bxi := bxi.ext x3
  replace bxr := bxr.ext x3
  have bxv : BK w3 (w2.heap.size) 38 #[.int .i64 gpa, .slice Apa Lpa cpa, .int .i64 hpa, .slice Bpa Mpa dpa, .int .i64 gpb, .slice Apb Lpb cpb, .int .i64 hpb, .slice Bpb Mpb dpb] := by rw [hw]; have h5 := (BK.new w2 #[.int .i64 gpa, .slice Apa Lpa cpa, .int .i64 hpa, .slice Bpa Mpa dpa, .int .i64 gpb, .slice Apb Lpb cpb, .int .i64 hpb, .slice Bpb Mpb dpb] 38); simpa only [World.size_alloc] using h5
  have szw3 : w3.heap.size = w2.heap.size + 1 := by rw [hw]; simp only [World.size_alloc]
  clear hw
  obtain ⟨bv, hbv⟩ : ∃ b, b = w2.heap.size := ⟨_, rfl⟩
  have bxv0 : BK w3 bv 38 #[.int .i64 gpa, .slice Apa Lpa cpa, .int .i64 hpa, .slice Bpa Mpa dpa, .int .i64 gpb, .slice Apb Lpb cpb, .int .i64 hpb, .slice Bpb Mpb dpb] := by rw [hbv]; exact bxv
  have HV : Hid (JB w3 bv 1 (ev q1 q2 (qs.drop qs.length)).1 (ev q1 q2 (qs.drop qs.length)).2) := by
    show JB _ _ _ _ _
    rw [List.drop_length]
    exact JB.mk bxv0 (HP.out.1.ext x3) (HP.out.2.ext x3)
  have xwv : Ext w w3 := (by with_reducible repeat' first | exact Ext.refl _ | assumption | apply Ext.alloc_r | apply Ext.drew_r | apply Ext.drewN_r | refine Ext.trans ?_ ‹Ext _ _›)
  have bxr0 := bxr
  have bxi0 := bxi
  clear HP bxv bxv0 bxr bxi
  rw [← hbv]
  have hbv2 : w.heap.size + 1 + 1 ≤ bv := by omega
  clear hbv
  go_loopg [6] qs.length (fun kk iv wr => ∃ (j D : Nat) (z : Int), iv = .int .i64 z ∧ z + 1 = (j : Int) ∧ j ≤ qs.length ∧ Hid (D = 1 + (qs.length - j) * (K + K + 1)) ∧ Hid (JB wr bv D (ev q1 q2 (qs.drop j)).1 (ev q1 q2 (qs.drop j)).2) ∧ Hid (j ≤ kk) ∧ BK wr w.heap.size 38 #[.int .i64 g1, .slice A1 L1 c1, .int .i64 h1, .slice B1 M1 d1, .int .i64 g2, .slice A2 L2 c2, .int .i64 h2, .slice B2 M2 d2] ∧ BK wr (w.heap.size + 1) 38 #[.int .i64 0, .slice none 0 0, .int .i64 0, .slice none 0 0, .int .i64 0, .slice none 0 0, .int .i64 0, .slice none 0 0] ∧ Ext w wr)
  case atStart => exact ⟨qs.length, 1, (L0 : Int) - 1, by go_num, by have h5 := HL.out; omega, Nat.le_refl _, (by show _ = _; rw [Nat.sub_self, Nat.zero_mul]), HV, Nat.le_refl _, bxi0, bxr0, xwv⟩
  case round =>
    clear HV bxi0 bxr0 xwv
    obtain ⟨j, D, z, rfl, hz, hj, HD, HVB, HK, bxi, bxr, hxr⟩ := hrel
    by_cases hlt : 1 ≤ j
    · obtain ⟨m, rfl⟩ : ∃ m, j = m + 1 := ⟨j - 1, by omega⟩
      obtain rfl : z = (m : Int) := by omega
      clear hz
      obtain rfl : A0 = some ⟨bl0, off, none⟩ := by
        rcases HA.out with h5 | h5
        · rw [h5] at hj; simp at hj
        · exact h5
      have hm0 : (0 : Int) ≤ (m : Int) := by omega
      have hm1 : (m : Int) < (L0 : Int) := by have := HL.out; omega
      have hDb : D + (K + K + 1) ≤ 1000000 := by
        have h5 := HD.out
        have h6 : (qs.length - (m + 1) + 1) * (K + K + 1) ≤ 100 * (K + K + 1) := Nat.mul_le_mul_right _ (by omega)
        rw [Nat.succ_mul] at h6
        omega
      have HD2 : Hid (D + K + K + 1 = 1 + (qs.length - m) * (K + K + 1)) := by
        show _ = _
        have h5 := HD.out
        rw [show qs.length - m = qs.length - (m + 1) + 1 by omega, Nat.succ_mul]
        omega
      obtain ⟨gla, Ala, cla, Lla, hla, Bla, dla, Mla, glb, Alb, clb, Llb, hlb, Blb, dlb, Mlb, bxv, lo, hi⟩ := HVB.out
      obtain ⟨ge, Ae, ce, Le, he, Be, de, Me, k0_0, k0_1, k0_2, k0_3, hqe⟩ := hc m (by omega)
      have ibv := bxv.isBox
      have HEV := Lib.hid (ev_cons' q1 q2 qs m (by omega))
      have szr := hxr.size
      have nib : w.heap.size ≠ bv := by omega
      have nrb : w.heap.size + 1 ≠ bv := by omega
      go_upto_region 5 with fail
      have kv_0 := bxv.c 0 (.int .i64 gla) rfl
      have fv_0 := bxv.f 0
      have kv_1 := bxv.c 1 (.slice Ala Lla cla) rfl
      have fv_1 := bxv.f 1
      have kv_2 := bxv.c 2 (.int .i64 hla) rfl
      have fv_2 := bxv.f 2
      have kv_3 := bxv.c 3 (.slice Bla Mla dla) rfl
      have fv_3 := bxv.f 3
      have kv_4 := bxv.c 4 (.int .i64 glb) rfl
      have fv_4 := bxv.f 4
      have kv_5 := bxv.c 5 (.slice Alb Llb clb) rfl
      have fv_5 := bxv.f 5
      have kv_6 := bxv.c 6 (.int .i64 hlb) rfl
      have fv_6 := bxv.f 6
      have kv_7 := bxv.c 7 (.slice Blb Mlb dlb) rfl
      have fv_7 := bxv.f 7
      have ki_0 := bxi.c 0 (.int .i64 g1) rfl
      have ki_1 := bxi.c 1 (.slice A1 L1 c1) rfl
      have ki_2 := bxi.c 2 (.int .i64 h1) rfl
      have ki_3 := bxi.c 3 (.slice B1 M1 d1) rfl
      have ki_4 := bxi.c 4 (.int .i64 g2) rfl
      have ki_5 := bxi.c 5 (.slice A2 L2 c2) rfl
      have ki_6 := bxi.c 6 (.int .i64 h2) rfl
      have ki_7 := bxi.c 7 (.slice B2 M2 d2) rfl
      have kc_0 := hxr.cell k0_0
      have kc_1 := hxr.cell k0_1
      have kc_2 := hxr.cell k0_2
      have kc_3 := hxr.cell k0_3
      have HKS : Hid (∀ w', Ext wr w' → (w'.cell? ⟨bv, 0, none⟩ = some (.int .i64 gla) ∧ w'.cell? ⟨bv, 1, none⟩ = some (.slice Ala Lla cla) ∧ w'.cell? ⟨bv, 2, none⟩ = some (.int .i64 hla) ∧ w'.cell? ⟨bv, 3, none⟩ = some (.slice Bla Mla dla) ∧ w'.cell? ⟨bv, 4, none⟩ = some (.int .i64 glb) ∧ w'.cell? ⟨bv, 5, none⟩ = some (.slice Alb Llb clb) ∧ w'.cell? ⟨bv, 6, none⟩ = some (.int .i64 hlb) ∧ w'.cell? ⟨bv, 7, none⟩ = some (.slice Blb Mlb dlb) ∧ w'.cell? ⟨w.heap.size, 0, none⟩ = some (.int .i64 g1) ∧ w'.cell? ⟨w.heap.size, 1, none⟩ = some (.slice A1 L1 c1) ∧ w'.cell? ⟨w.heap.size, 2, none⟩ = some (.int .i64 h1) ∧ w'.cell? ⟨w.heap.size, 3, none⟩ = some (.slice B1 M1 d1) ∧ w'.cell? ⟨w.heap.size, 4, none⟩ = some (.int .i64 g2) ∧ w'.cell? ⟨w.heap.size, 5, none⟩ = some (.slice A2 L2 c2) ∧ w'.cell? ⟨w.heap.size, 6, none⟩ = some (.int .i64 h2) ∧ w'.cell? ⟨w.heap.size, 7, none⟩ = some (.slice B2 M2 d2) ∧ w'.cell? ⟨bl0, off + m * 4, none⟩ = some (.int .i64 ge) ∧ w'.cell? ⟨bl0, off + m * 4 + 1, none⟩ = some (.slice Ae Le ce) ∧ w'.cell? ⟨bl0, off + m * 4 + 2, none⟩ = some (.int .i64 he) ∧ w'.cell? ⟨bl0, off + m * 4 + 3, none⟩ = some (.slice Be Me de))) := fun w' hk => ⟨hk.cell kv_0, hk.cell kv_1, hk.cell kv_2, hk.cell kv_3, hk.cell kv_4, hk.cell kv_5, hk.cell kv_6, hk.cell kv_7, hk.cell ki_0, hk.cell ki_1, hk.cell ki_2, hk.cell ki_3, hk.cell ki_4, hk.cell ki_5, hk.cell ki_6, hk.cell ki_7, hk.cell kc_0, hk.cell kc_1, hk.cell kc_2, hk.cell kc_3⟩
      refine wp_region_tail 9 (fun w' => w'.cell? ⟨bv, 0, none⟩ = some (.int .i64 gla) ∧ w'.cell? ⟨bv, 1, none⟩ = some (.slice Ala Lla cla) ∧ w'.cell? ⟨bv, 2, none⟩ = some (.int .i64 hla) ∧ w'.cell? ⟨bv, 3, none⟩ = some (.slice Bla Mla dla) ∧ w'.cell? ⟨bv, 4, none⟩ = some (.int .i64 glb) ∧ w'.cell? ⟨bv, 5, none⟩ = some (.slice Alb Llb clb) ∧ w'.cell? ⟨bv, 6, none⟩ = some (.int .i64 hlb) ∧ w'.cell? ⟨bv, 7, none⟩ = some (.slice Blb Mlb dlb) ∧ w'.cell? ⟨w.heap.size, 0, none⟩ = some (.int .i64 g1) ∧ w'.cell? ⟨w.heap.size, 1, none⟩ = some (.slice A1 L1 c1) ∧ w'.cell? ⟨w.heap.size, 2, none⟩ = some (.int .i64 h1) ∧ w'.cell? ⟨w.heap.size, 3, none⟩ = some (.slice B1 M1 d1) ∧ w'.cell? ⟨w.heap.size, 4, none⟩ = some (.int .i64 g2) ∧ w'.cell? ⟨w.heap.size, 5, none⟩ = some (.slice A2 L2 c2) ∧ w'.cell? ⟨w.heap.size, 6, none⟩ = some (.int .i64 h2) ∧ w'.cell? ⟨w.heap.size, 7, none⟩ = some (.slice B2 M2 d2) ∧ w'.cell? ⟨bl0, off + m * 4, none⟩ = some (.int .i64 ge) ∧ w'.cell? ⟨bl0, off + m * 4 + 1, none⟩ = some (.slice Ae Le ce) ∧ w'.cell? ⟨bl0, off + m * 4 + 2, none⟩ = some (.int .i64 he) ∧ w'.cell? ⟨bl0, off + m * 4 + 3, none⟩ = some (.slice Be Me de)) (by kernel_rfl) ?_ (fun hHeld inv => ?_)
      · (with_reducible refine HKS.out _ ?_; (with_reducible repeat' first | exact Ext.refl _ | assumption | apply Ext.alloc_r | apply Ext.drew_r | apply Ext.drewN_r | refine Ext.trans ?_ ‹Ext _ _›))
      refine wpAnyT_take (i := 0) (v := ?tv0) rfl (by kernel_rfl) (by kernel_rfl) (by kernel_rfl) (by kernel_rfl) inv (fun _ _ _ h => h) (Or.inl ⟨by rfl, ?th0⟩) (by assumption) (fun inv => ?tr0)
      case th0 =>
        intro w5 hSw
        (try dsimp only at hSw)
        go_simp
        (try with_reducible rfl)
      try simp only [Act.put, List.setIfInBounds_toArray]
      refine wpAnyT_take (i := 1) (v := ?tv1) rfl (by kernel_rfl) (by kernel_rfl) (by kernel_rfl) (by kernel_rfl) inv (fun _ _ _ h => h) (Or.inl ⟨by rfl, ?th1⟩) (by assumption) (fun inv => ?tr1)
      case th1 =>
        intro w5 hSw
        (try dsimp only at hSw)
        go_simp
        (try with_reducible rfl)
      try simp only [Act.put]
      refine wpAnyT_take (i := 3) (v := ?tv3) rfl (by kernel_rfl) (by kernel_rfl) (by kernel_rfl) (by kernel_rfl) inv (fun _ _ _ h => h) (Or.inl ⟨by rfl, ?th3⟩) (by assumption) (fun inv => ?tr3)
      case th3 =>
        intro w5 hSw
        (try dsimp only at hSw)
        go_simp
        (try with_reducible rfl)
      try simp only [Act.put]
      refine wpAnyT_take (i := 4) (v := ?tv4) rfl (by kernel_rfl) (by kernel_rfl) (by kernel_rfl) (by kernel_rfl) inv (fun _ _ _ h => h) (Or.inl ⟨by rfl, ?th4⟩) (by assumption) (fun inv => ?tr4)
      case th4 =>
        intro w5 hSw
        (try dsimp only at hSw)
        go_simp
        (try with_reducible rfl)
      try simp only [Act.put]
      refine wpAnyT_take (i := 5) (v := ?tv5) rfl (by kernel_rfl) (by kernel_rfl) (by kernel_rfl) (by kernel_rfl) inv (fun _ _ _ h => h) (Or.inl ⟨by rfl, ?th5⟩) (by assumption) (fun inv => ?tr5)
      case th5 =>
        intro w5 hSw
        (try dsimp only at hSw)
        go_simp
        (try with_reducible rfl)
      try simp only [Act.put]
      refine wpAnyT_take (i := 6) (v := ?tv6) rfl (by kernel_rfl) (by kernel_rfl) (by kernel_rfl) (by kernel_rfl) inv (fun _ _ _ h => h) (Or.inl ⟨by rfl, ?th6⟩) (by assumption) (fun inv => ?tr6)
      case th6 =>
        intro w5 hSw
        (try dsimp only at hSw)
        go_simp
        (try with_reducible rfl)
      try simp only [Act.put]
      refine wpAnyT_head (i := 2) (by kernel_rfl) rfl (by kernel_rfl) inv (fun K hK => ?_)
      clear inv
      go_simp
      (go_at_call 15; refine (jmul_r (lo.ext (by with_reducible repeat' first | exact Ext.refl _ | assumption | apply Ext.alloc_r | apply Ext.drew_r | apply Ext.drewN_r | refine Ext.trans ?_ ‹Ext _ _›)) (hi.ext (by with_reducible repeat' first | exact Ext.refl _ | assumption | apply Ext.alloc_r | apply Ext.drew_r | apply Ext.drewN_r | refine Ext.trans ?_ ‹Ext _ _›)) (h_1.ext (by with_reducible repeat' first | exact Ext.refl _ | assumption | apply Ext.alloc_r | apply Ext.drew_r | apply Ext.drewN_r | refine Ext.trans ?_ ‹Ext _ _›)) (h_2.ext (by with_reducible repeat' first | exact Ext.refl _ | assumption | apply Ext.alloc_r | apply Ext.drew_r | apply Ext.drewN_r | refine Ext.trans ?_ ‹Ext _ _›)) (by omega)).mono ?_; rintro e w1 ⟨gma, Ama, cma, Lma, hma, Bma, dma, Mma, gmb, Amb, cmb, Lmb, hmb, Bmb, dmb, Mmb, rfl, ma, mb, x1⟩)
      refine hK.out _ _ ?_ (fun hHeld inv => ?_)
      · clear hK; (try dsimp only)
        (with_reducible refine HKS.out _ ?_; (with_reducible repeat' first | exact Ext.refl _ | assumption | apply Ext.alloc_r | apply Ext.drew_r | apply Ext.drewN_r | refine Ext.trans ?_ ‹Ext _ _›))
      clear hK K
      try simp only [Act.put, List.setIfInBounds_toArray, List.set_cons_zero, List.set_cons_succ]
      refine wpAnyT_head (i := 7) (by kernel_rfl) rfl (by kernel_rfl) inv (fun K hK => ?_)
      clear inv
      go_simp
      (go_at_call 30; refine (jpoint_r (hqe.ext (by with_reducible repeat' first | exact Ext.refl _ | assumption | apply Ext.alloc_r | apply Ext.drew_r | apply Ext.drewN_r | refine Ext.trans ?_ ‹Ext _ _›))).mono ?_; rintro e w2 ⟨gpa, Apa, cpa, Lpa, hpa, Bpa, dpa, Mpa, gpb, Apb, cpb, Lpb, hpb, Bpb, dpb, Mpb, rfl, pa, pb, x2⟩)
      refine hK.out _ _ ?_ (fun hHeld inv => ?_)
      · clear hK; (try dsimp only)
        (with_reducible refine HKS.out _ ?_; (with_reducible repeat' first | exact Ext.refl _ | assumption | apply Ext.alloc_r | apply Ext.drew_r | apply Ext.drewN_r | refine Ext.trans ?_ ‹Ext _ _›))
      clear hK K
      try simp only [Act.put, List.setIfInBounds_toArray, List.set_cons_zero, List.set_cons_succ]
      refine wpAnyT_head (i := 8) (by kernel_rfl) rfl (by kernel_rfl) inv (fun K hK => ?_)
      clear inv
      go_simp
      (go_at_call 26; refine (jadd_r (ma.ext (by with_reducible repeat' first | exact Ext.refl _ | assumption | apply Ext.alloc_r | apply Ext.drew_r | apply Ext.drewN_r | refine Ext.trans ?_ ‹Ext _ _›)) (mb.ext (by with_reducible repeat' first | exact Ext.refl _ | assumption | apply Ext.alloc_r | apply Ext.drew_r | apply Ext.drewN_r | refine Ext.trans ?_ ‹Ext _ _›)) (pa.ext (by with_reducible repeat' first | exact Ext.refl _ | assumption | apply Ext.alloc_r | apply Ext.drew_r | apply Ext.drewN_r | refine Ext.trans ?_ ‹Ext _ _›)) (pb.ext (by with_reducible repeat' first | exact Ext.refl _ | assumption | apply Ext.alloc_r | apply Ext.drew_r | apply Ext.drewN_r | refine Ext.trans ?_ ‹Ext _ _›)) (by omega) (by omega)).mono ?_; rintro e w3 ⟨gna, Ana, cna, Lna, hna, Bna, dna, Mna, gnb, Anb, cnb, Lnb, hnb, Bnb, dnb, Mnb, rfl, na, nb, x3⟩; have yln : Ext wr w3 := (by with_reducible repeat' first | exact Ext.refl _ | assumption | apply Ext.alloc_r | apply Ext.drew_r | apply Ext.drewN_r | refine Ext.trans ?_ ‹Ext _ _›); have vn_0 := (bxv.ext yln).c 0 (.int .i64 gla) rfl; have un_0 := (bxv.ext yln).f 0; have vn_1 := (bxv.ext yln).c 1 (.slice Ala Lla cla) rfl; have un_1 := (bxv.ext yln).f 1; have vn_2 := (bxv.ext yln).c 2 (.int .i64 hla) rfl; have un_2 := (bxv.ext yln).f 2; have vn_3 := (bxv.ext yln).c 3 (.slice Bla Mla dla) rfl; have un_3 := (bxv.ext yln).f 3; have vn_4 := (bxv.ext yln).c 4 (.int .i64 glb) rfl; have un_4 := (bxv.ext yln).f 4; have vn_5 := (bxv.ext yln).c 5 (.slice Alb Llb clb) rfl; have un_5 := (bxv.ext yln).f 5; have vn_6 := (bxv.ext yln).c 6 (.int .i64 hlb) rfl; have un_6 := (bxv.ext yln).f 6; have vn_7 := (bxv.ext yln).c 7 (.slice Blb Mlb dlb) rfl; have un_7 := (bxv.ext yln).f 7; clear yln)
      refine hK.out _ _ ?_ (fun hHeld inv => ?_)
      · clear hK; (try dsimp only)
        (with_reducible refine HKS.out _ ?_; (with_reducible repeat' first | exact Ext.refl _ | assumption | apply Ext.alloc_r | apply Ext.drew_r | apply Ext.drewN_r | refine Ext.trans ?_ ‹Ext _ _›))
      clear hK K
      try simp only [Act.put, List.setIfInBounds_toArray, List.set_cons_zero, List.set_cons_succ]
      refine wpAnyT_tail (i := 9) (by kernel_rfl) rfl (by kernel_rfl) (fun K hK => ?_)
      (try clear inv)
      go_simp
      refine hK.out _ _ ?_
      clear hK K
      try simp only [Act.put, List.setIfInBounds_toArray, List.set_cons_zero, List.set_cons_succ]
      refine wpAnyT_done (by kernel_rfl) ?_ _
      clear HKS
      go_wp2_with fail
      go_roundg m
      case measure => have h5 : m + 1 ≤ gk := HK.out; omega
      case rel =>
        refine ⟨m, D + K + K + 1, (m : Int) - 1, by go_num, by omega, by omega, HD2, ?_, Nat.le_refl _, ?_, ?_, ?_⟩
        · show JB _ _ _ _ _
          rw [HEV.out.1, HEV.out.2]
          refine JB.mk (g := gna) (A := Ana) (c := cna) (L := Lna) (h := hna) (B := Bna) (d := dna) (M := Mna) (g' := gnb) (A' := Anb) (c' := cnb) (L' := Lnb) (h' := hnb) (B' := Bnb) (d' := dnb) (M' := Mnb) ?_ (na.kept ?_) (nb.kept ?_)
          · (repeat' (first | with_reducible assumption | with_reducible apply BK.set8 | with_reducible apply BK.alloc_ | with_reducible apply BK.drew_ | (with_reducible apply BK.far8; (case hne => (first | assumption | omega))) | with_reducible refine BK.ext ?_ ‹Ext _ _›))
          · (repeat' (first | with_reducible exact Kept.refl _ | with_reducible apply Kept.alloc_r | with_reducible apply Kept.drew_r | (with_reducible apply Kept.setJ; (case hb => ((repeat' (first | with_reducible assumption | with_reducible apply IsBox.set_ | (with_reducible apply IsBox.new; (first | (with_reducible rfl) | simp); done) | with_reducible apply IsBox.alloc_ | with_reducible apply IsBox.drew_ | with_reducible refine IsBox.ext ?_ ‹Ext _ _›)); done))) | with_reducible refine Kept.trans ?_ (Ext.kept ‹Ext _ _›)))
          · (repeat' (first | with_reducible exact Kept.refl _ | with_reducible apply Kept.alloc_r | with_reducible apply Kept.drew_r | (with_reducible apply Kept.setJ; (case hb => ((repeat' (first | with_reducible assumption | with_reducible apply IsBox.set_ | (with_reducible apply IsBox.new; (first | (with_reducible rfl) | simp); done) | with_reducible apply IsBox.alloc_ | with_reducible apply IsBox.drew_ | with_reducible refine IsBox.ext ?_ ‹Ext _ _›)); done))) | with_reducible refine Kept.trans ?_ (Ext.kept ‹Ext _ _›)))
        · (repeat' (first | with_reducible assumption | with_reducible apply BK.set8 | with_reducible apply BK.alloc_ | with_reducible apply BK.drew_ | (with_reducible apply BK.far8; (case hne => (first | assumption | omega))) | with_reducible refine BK.ext ?_ ‹Ext _ _›))
        · (repeat' (first | with_reducible assumption | with_reducible apply BK.set8 | with_reducible apply BK.alloc_ | with_reducible apply BK.drew_ | (with_reducible apply BK.far8; (case hne => (first | assumption | omega))) | with_reducible refine BK.ext ?_ ‹Ext _ _›))
        · have hxz := hxr
          (repeat' (first | with_reducible exact Ext.refl _ | with_reducible assumption | with_reducible apply Ext.alloc_r | with_reducible apply Ext.drew_r | with_reducible apply Ext.drewN_r | with_reducible apply Ext.set_r | with_reducible exact Nat.le_refl _ | omega | with_reducible refine Ext.trans ?_ ‹Ext _ _›))
    · have hj0 : j = 0 := by omega
      have HD2 : Hid (D = 1 + qs.length * (K + K + 1)) := by
        show _ = _
        have h5 := HD.out
        rw [hj0, Nat.sub_zero] at h5
        exact h5
      obtain ⟨gla, Ala, cla, Lla, hla, Bla, dla, Mla, glb, Alb, clb, Llb, hlb, Blb, dlb, Mlb, bxv, lo, hi⟩ := HVB.out
      have szr := hxr.size
      have hz2 : z < 0 := by omega
      have HE : Hid (ev q1 q2 (qs.drop j) = ev q1 q2 qs) := by show _ = _; rw [hj0, List.drop_zero]
      clear HVB hj0 hz hlt bxi HA hc
      have kv_0 := bxv.c 0 (.int .i64 gla) rfl
      have kv_1 := bxv.c 1 (.slice Ala Lla cla) rfl
      have kv_2 := bxv.c 2 (.int .i64 hla) rfl
      have kv_3 := bxv.c 3 (.slice Bla Mla dla) rfl
      have kv_4 := bxv.c 4 (.int .i64 glb) rfl
      have kv_5 := bxv.c 5 (.slice Alb Llb clb) rfl
      have kv_6 := bxv.c 6 (.int .i64 hlb) rfl
      have kv_7 := bxv.c 7 (.slice Blb Mlb dlb) rfl
      have kr_0 := bxr.c 0 (.int .i64 0) rfl
      have fr_0 := bxr.f 0
      have kr_1 := bxr.c 1 (.slice none 0 0) rfl
      have fr_1 := bxr.f 1
      have kr_2 := bxr.c 2 (.int .i64 0) rfl
      have fr_2 := bxr.f 2
      have kr_3 := bxr.c 3 (.slice none 0 0) rfl
      have fr_3 := bxr.f 3
      have kr_4 := bxr.c 4 (.int .i64 0) rfl
      have fr_4 := bxr.f 4
      have kr_5 := bxr.c 5 (.slice none 0 0) rfl
      have fr_5 := bxr.f 5
      have kr_6 := bxr.c 6 (.int .i64 0) rfl
      have fr_6 := bxr.f 6
      have kr_7 := bxr.c 7 (.slice none 0 0) rfl
      have fr_7 := bxr.f 7
      go_wp2_with fail
      clear kv_0 kv_1 kv_2 kv_3 kv_4 kv_5 kv_6 kv_7 kr_0 fr_0 kr_1 fr_1 kr_2 fr_2 kr_3 fr_3 kr_4 fr_4 kr_5 fr_5 kr_6 fr_6 kr_7 fr_7
      obtain ⟨w4, hw⟩ : ∃ z : World, z = ((((((((wr.setCell ⟨(w.heap.size + 1), 0, none⟩ (.int .i64 gla)).setCell ⟨(w.heap.size + 1), 1, none⟩ (.slice Ala Lla cla)).setCell ⟨(w.heap.size + 1), 2, none⟩ (.int .i64 hla)).setCell ⟨(w.heap.size + 1), 3, none⟩ (.slice Bla Mla dla)).setCell ⟨(w.heap.size + 1), 4, none⟩ (.int .i64 glb)).setCell ⟨(w.heap.size + 1), 5, none⟩ (.slice Alb Llb clb)).setCell ⟨(w.heap.size + 1), 6, none⟩ (.int .i64 hlb)).setCell ⟨(w.heap.size + 1), 7, none⟩ (.slice Blb Mlb dlb)) := ⟨_, rfl⟩
      rw [← hw]
      have kw4 : Kept wr w4 := by rw [hw]; exact (Kept.set_ (Kept.set_ (Kept.set_ (Kept.set_ (Kept.set_ (Kept.set_ (Kept.set_ (Kept.set_ (Kept.refl _) bxr.isBox plain_J) (IsBox.set_ bxr.isBox) plain_J) (IsBox.set_ (IsBox.set_ bxr.isBox)) plain_J) (IsBox.set_ (IsBox.set_ (IsBox.set_ bxr.isBox))) plain_J) (IsBox.set_ (IsBox.set_ (IsBox.set_ (IsBox.set_ bxr.isBox)))) plain_J) (IsBox.set_ (IsBox.set_ (IsBox.set_ (IsBox.set_ (IsBox.set_ bxr.isBox))))) plain_J) (IsBox.set_ (IsBox.set_ (IsBox.set_ (IsBox.set_ (IsBox.set_ (IsBox.set_ bxr.isBox)))))) plain_J) (IsBox.set_ (IsBox.set_ (IsBox.set_ (IsBox.set_ (IsBox.set_ (IsBox.set_ (IsBox.set_ bxr.isBox))))))) plain_J)
      have nbv : BK w4 (bv) 38 #[.int .i64 gla, .slice Ala Lla cla, .int .i64 hla, .slice Bla Mla dla, .int .i64 glb, .slice Alb Llb clb, .int .i64 hlb, .slice Blb Mlb dlb] := by rw [hw]; exact (BK.far (BK.far (BK.far (BK.far (BK.far (BK.far (BK.far (BK.far bxv (show bv ≠ (w.heap.size + 1) by omega) 0 _) (show bv ≠ (w.heap.size + 1) by omega) 1 _) (show bv ≠ (w.heap.size + 1) by omega) 2 _) (show bv ≠ (w.heap.size + 1) by omega) 3 _) (show bv ≠ (w.heap.size + 1) by omega) 4 _) (show bv ≠ (w.heap.size + 1) by omega) 5 _) (show bv ≠ (w.heap.size + 1) by omega) 6 _) (show bv ≠ (w.heap.size + 1) by omega) 7 _)
      have nbr : BK w4 ((w.heap.size + 1)) 38 #[.int .i64 gla, .slice Ala Lla cla, .int .i64 hla, .slice Bla Mla dla, .int .i64 glb, .slice Alb Llb clb, .int .i64 hlb, .slice Blb Mlb dlb] := by rw [hw]; exact (BK.set (i := 7) (u := .slice Blb Mlb dlb) (vs' := #[.int .i64 gla, .slice Ala Lla cla, .int .i64 hla, .slice Bla Mla dla, .int .i64 glb, .slice Alb Llb clb, .int .i64 hlb, .slice Blb Mlb dlb]) (BK.set (i := 6) (u := .int .i64 hlb) (vs' := #[.int .i64 gla, .slice Ala Lla cla, .int .i64 hla, .slice Bla Mla dla, .int .i64 glb, .slice Alb Llb clb, .int .i64 hlb, .slice none 0 0]) (BK.set (i := 5) (u := .slice Alb Llb clb) (vs' := #[.int .i64 gla, .slice Ala Lla cla, .int .i64 hla, .slice Bla Mla dla, .int .i64 glb, .slice Alb Llb clb, .int .i64 0, .slice none 0 0]) (BK.set (i := 4) (u := .int .i64 glb) (vs' := #[.int .i64 gla, .slice Ala Lla cla, .int .i64 hla, .slice Bla Mla dla, .int .i64 glb, .slice none 0 0, .int .i64 0, .slice none 0 0]) (BK.set (i := 3) (u := .slice Bla Mla dla) (vs' := #[.int .i64 gla, .slice Ala Lla cla, .int .i64 hla, .slice Bla Mla dla, .int .i64 0, .slice none 0 0, .int .i64 0, .slice none 0 0]) (BK.set (i := 2) (u := .int .i64 hla) (vs' := #[.int .i64 gla, .slice Ala Lla cla, .int .i64 hla, .slice none 0 0, .int .i64 0, .slice none 0 0, .int .i64 0, .slice none 0 0]) (BK.set (i := 1) (u := .slice Ala Lla cla) (vs' := #[.int .i64 gla, .slice Ala Lla cla, .int .i64 0, .slice none 0 0, .int .i64 0, .slice none 0 0, .int .i64 0, .slice none 0 0]) (BK.set (i := 0) (u := .int .i64 gla) (vs' := #[.int .i64 gla, .slice none 0 0, .int .i64 0, .slice none 0 0, .int .i64 0, .slice none 0 0, .int .i64 0, .slice none 0 0]) bxr rfl) rfl) rfl) rfl) rfl) rfl) rfl) rfl)
      have x4 : Ext w w4 := by rw [hw]; have hxp : Ext w wr := (by with_reducible repeat' first | exact Ext.refl _ | assumption | apply Ext.alloc_r | apply Ext.drew_r | apply Ext.drewN_r | refine Ext.trans ?_ ‹Ext _ _›); exact (Ext.set_ (Ext.set_ (Ext.set_ (Ext.set_ (Ext.set_ (Ext.set_ (Ext.set_ (Ext.set_ hxp (show _ ≤ (w.heap.size + 1) by omega)) (show _ ≤ (w.heap.size + 1) by omega)) (show _ ≤ (w.heap.size + 1) by omega)) (show _ ≤ (w.heap.size + 1) by omega)) (show _ ≤ (w.heap.size + 1) by omega)) (show _ ≤ (w.heap.size + 1) by omega)) (show _ ≤ (w.heap.size + 1) by omega)) (show _ ≤ (w.heap.size + 1) by omega))
      clear bxv
      clear bxr
      have bxv := nbv
      clear nbv
      have bxr := nbr
      clear nbr
      have szw4 : w4.heap.size = wr.heap.size := by rw [hw]; simp
      replace lo := (lo.ext (by with_reducible repeat' first | exact Ext.refl _ | assumption | apply Ext.alloc_r | apply Ext.drew_r | apply Ext.drewN_r | refine Ext.trans ?_ ‹Ext _ _›)).kept kw4
      replace hi := (hi.ext (by with_reducible repeat' first | exact Ext.refl _ | assumption | apply Ext.alloc_r | apply Ext.drew_r | apply Ext.drewN_r | refine Ext.trans ?_ ‹Ext _ _›)).kept kw4
      clear hw kw4
      have HU := Lib.hid lo
      have HV := Lib.hid hi
      clear lo hi
      have kr_0 := bxr.c 0 (.int .i64 gla) rfl
      have kr_1 := bxr.c 1 (.slice Ala Lla cla) rfl
      have kr_2 := bxr.c 2 (.int .i64 hla) rfl
      have kr_3 := bxr.c 3 (.slice Bla Mla dla) rfl
      have kr_4 := bxr.c 4 (.int .i64 glb) rfl
      have kr_5 := bxr.c 5 (.slice Alb Llb clb) rfl
      have kr_6 := bxr.c 6 (.int .i64 hlb) rfl
      have kr_7 := bxr.c 7 (.slice Blb Mlb dlb) rfl
      refine bodyPost_ret (v := Value.agg #[Value.int IntKind.i64 gla, Value.slice Ala Lla cla, Value.int IntKind.i64 hla, Value.slice Bla Mla dla, Value.int IntKind.i64 glb, Value.slice Alb Llb clb, Value.int IntKind.i64 hlb, Value.slice Blb Mlb dlb]) (by simp [results, Tryz.results20, go_sem, kr_0, kr_1, kr_2, kr_3, kr_4, kr_5, kr_6, kr_7]) rfl ?_
      exact ⟨_, _, _, _, _, _, _, _, _, _, _, _, _, _, _, _, rfl, by rw [← HE.out, ← HD2.out]; exact HU.out, by rw [← HE.out, ← HD2.out]; exact HV.out, x4⟩
end Go.Proofs.YtehhkeenjlpikaaGreat
