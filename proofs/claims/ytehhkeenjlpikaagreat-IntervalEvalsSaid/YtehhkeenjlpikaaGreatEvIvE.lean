import Derived.Test.YtehhkeenjlpikaaGreatEvIvC
import Derived.Test.YtehhkeenjlpikaaGreatTail
import Derived.Deep.RegionHeldLaw
import Derived.Deep.LoopGhost
import Derived.Deep.QuietTactic
import Derived.BigQuiet
namespace Go.Proofs.YtehhkeenjlpikaaGreat
open Go.RowKit
/-- A list of fractions in memory, each of at most N digits. -/
def CS (w : World) (A : Option Addr) (N : Nat) (qs : List Rat) : Prop := ∀ j (h : j < qs.length), ∃ b off s A' c L B d M, A = some ⟨b, off, none⟩ ∧ b < w.heap.size ∧ w.cell? ⟨b, off + j * 3, none⟩ = some (.bool s) ∧ w.cell? ⟨b, off + j * 3 + 1, none⟩ = some (.slice A' L c) ∧ w.cell? ⟨b, off + j * 3 + 2, none⟩ = some (.slice B M d) ∧ RV w s A' c L B d M N qs[j]
theorem CS.ext {w w' : World} {A : Option Addr} {N : Nat} {qs : List Rat} (h : CS w A N qs) (hx : Ext w w') : CS w' A N qs := fun j hj => by
  obtain ⟨b, off, s, A', c, L, B, d, M, e, h0, h1, h2, h3, h4⟩ := h j hj
  exact ⟨b, off, s, A', c, L, B, d, M, e, Nat.lt_of_lt_of_le h0 hx.size, hx.cell h1, hx.cell h2, hx.cell h3, h4.ext hx⟩
/-- The value so far, in its box. -/
def VB (w : World) (g N b : Nat) (p q : Rat) : Prop := ∃ s A c L B d M s' A' c' L' B' d' M', BK w b 29 #[.bool s, .slice A L c, .slice B M d, .bool s', .slice A' L' c', .slice B' M' d'] ∧ RO w g s A c L B d M N p ∧ RO w g s' A' c' L' B' d' M' N q
theorem VB.mk {w : World} {g N b : Nat} {p q : Rat} {s s' : Bool} {A B A' B' : Option Addr} {c L d M c' L' d' M' : Nat} (h1 : BK w b 29 #[.bool s, .slice A L c, .slice B M d, .bool s', .slice A' L' c', .slice B' M' d']) (k1 : RO w g s A c L B d M N p) (k2 : RO w g s' A' c' L' B' d' M' N q) : VB w g N b p q := ⟨s, A, c, L, B, d, M, s', A', c', L', B', d', M', h1, k1, k2⟩
theorem ev_cons (a b : Rat) (qs : List Rat) (m : Nat) (h : m < qs.length) : (ev a b (qs.drop m)).1 = minQ (mlo (ev a b (qs.drop (m + 1))).1 (ev a b (qs.drop (m + 1))).2 a b) (mhi (ev a b (qs.drop (m + 1))).1 (ev a b (qs.drop (m + 1))).2 a b) + minQ qs[m] qs[m] ∧ (ev a b (qs.drop m)).2 = maxQ (mlo (ev a b (qs.drop (m + 1))).1 (ev a b (qs.drop (m + 1))).2 a b) (mhi (ev a b (qs.drop (m + 1))).1 (ev a b (qs.drop (m + 1))).2 a b) + maxQ qs[m] qs[m] := by
  have e := mlo_le_mhi (ev a b (qs.drop (m + 1))).1 (ev a b (qs.drop (m + 1))).2 a b
  rw [List.drop_eq_getElem_cons h, min_of_le e, max_of_le e, min_of_le Rat.le_refl, max_of_le Rat.le_refl]
  exact ⟨rfl, rfl⟩
set_option maxHeartbeats 4000000 in
set_option maxRecDepth 100000 in
theorem ieval_r {w : World} {N c0 L0 : Nat} {A0 : Option Addr} {qs : List Rat} {s1 s2 : Bool} {A1 B1 A2 B2 : Option Addr} {c1 d1 L1 M1 c2 d2 L2 M2 : Nat} {q1 q2 : Rat} (hc : CS w A0 N qs) (hL : L0 = qs.length) (h1 : RV w s1 A1 c1 L1 B1 d1 M1 N q1) (h2 : RV w s2 A2 c2 L2 B2 d2 M2 N q2) (hN1 : 1 ≤ N) (hN : 1 + qs.length * (N + N + 1) < 48) :
    Calls Tryz.prog 19 #[.slice A0 L0 c0, Value.agg #[Value.bool s1, Value.slice A1 L1 c1, Value.slice B1 M1 d1, Value.bool s2, Value.slice A2 L2 c2, Value.slice B2 M2 d2]] w (RetI w (1 + qs.length * (N + N + 1)) (ev q1 q2 qs).1 (ev q1 q2 qs).2) := by
  have hl : qs.length < 48 := by
    have h5 : qs.length * 1 ≤ qs.length * (N + N + 1) := Nat.mul_le_mul_left _ (by omega)
    omega
  have hL2 : L0 < 48 := by omega
  have HL := Lib.hid hL
  clear hL
  go_enter Tryz.func19, Tryz.ntmps19
  go_wp2_with fail
  obtain ⟨w0, hw0⟩ : ∃ z : World, z = ((w.alloc (.cells #[.bool s1, .slice A1 L1 c1, .slice B1 M1 d1, .bool s2, .slice A2 L2 c2, .slice B2 M2 d2] 29)).alloc (.cells #[.bool false, .slice none 0 0, .slice none 0 0, .bool false, .slice none 0 0, .slice none 0 0] 29)) := ⟨_, rfl⟩
  rw [← hw0]
  have bxi : BK w0 (w.heap.size) 29 #[.bool s1, .slice A1 L1 c1, .slice B1 M1 d1, .bool s2, .slice A2 L2 c2, .slice B2 M2 d2] := by rw [hw0]; have h5 := (BK.ext (BK.new w #[.bool s1, .slice A1 L1 c1, .slice B1 M1 d1, .bool s2, .slice A2 L2 c2, .slice B2 M2 d2] 29) (Ext.alloc _ (.cells #[.bool false, .slice none 0 0, .slice none 0 0, .bool false, .slice none 0 0, .slice none 0 0] 29))); simpa only [World.size_alloc] using h5
  have bxr : BK w0 (w.heap.size + 1) 29 #[.bool false, .slice none 0 0, .slice none 0 0, .bool false, .slice none 0 0, .slice none 0 0] := by rw [hw0]; have h5 := (BK.new (w.alloc (.cells #[.bool s1, .slice A1 L1 c1, .slice B1 M1 d1, .bool s2, .slice A2 L2 c2, .slice B2 M2 d2] 29)) #[.bool false, .slice none 0 0, .slice none 0 0, .bool false, .slice none 0 0, .slice none 0 0] 29); simpa only [World.size_alloc] using h5
  have hszw0 : w0.heap.size = w.heap.size + 1 + 1 := by rw [hw0]; simp only [World.size_alloc]
  have xw0 : Ext w w0 := by rw [hw0]; exact ((Ext.alloc _ _).trans (Ext.alloc _ _))
  clear hw0
  refine (rof_r (n := 0) (by omega)).mono ?_
  rintro e w1 ⟨sy, Ay, cy, Ly, By, dy, My, rfl, y, x1⟩
  have szw1 : w0.heap.size ≤ w1.heap.size := x1.size
  replace bxi := bxi.ext x1
  replace bxr := bxr.ext x1
  have HO := Lib.hid y.rv
  clear y
  have ki_0 := bxi.c 0 (.bool s1) rfl
  have ki_1 := bxi.c 1 (.slice A1 L1 c1) rfl
  have ki_2 := bxi.c 2 (.slice B1 M1 d1) rfl
  have ki_3 := bxi.c 3 (.bool s2) rfl
  have ki_4 := bxi.c 4 (.slice A2 L2 c2) rfl
  have ki_5 := bxi.c 5 (.slice B2 M2 d2) rfl
  have kr_0 := bxr.c 0 (.bool false) rfl
  have kr_1 := bxr.c 1 (.slice none 0 0) rfl
  have kr_2 := bxr.c 2 (.slice none 0 0) rfl
  have kr_3 := bxr.c 3 (.bool false) rfl
  have kr_4 := bxr.c 4 (.slice none 0 0) rfl
  have kr_5 := bxr.c 5 (.slice none 0 0) rfl
  go_wp2_with fail
  clear ki_0 ki_1 ki_2 ki_3 ki_4 ki_5 kr_0 kr_1 kr_2 kr_3 kr_4 kr_5
  refine (point_r (HO.out.ext (by with_reducible repeat' first | exact Ext.refl _ | assumption | apply Ext.alloc_r | apply Ext.drew_r | apply Ext.drewN_r | refine Ext.trans ?_ ‹Ext _ _›)) (by omega)).mono ?_
  rintro e w2 ⟨spa, Apa, cpa, Lpa, Bpa, dpa, Mpa, spb, Apb, cpb, Lpb, Bpb, dpb, Mpb, rfl, pa, pb, x2⟩
  have szw2 : w1.heap.size ≤ w2.heap.size := x2.size
  replace bxi := bxi.ext x2
  replace bxr := bxr.ext x2
  have HP := Lib.hid (And.intro pa pb)
  clear pa pb HO
  obtain ⟨g, hg⟩ : ∃ g, g = w.heap.size := ⟨_, rfl⟩
  have hgw : w.heap.size ≤ g := by omega
  have hgw2 : g ≤ w.heap.size := by omega
  clear hg
  have xz : Ext w w2 := (by with_reducible repeat' first | exact Ext.refl _ | assumption | apply Ext.alloc_r | apply Ext.drew_r | apply Ext.drewN_r | refine Ext.trans ?_ ‹Ext _ _›)
  have bxi0 := bxi
  have bxr0 := bxr
  have hc0 := hc.ext xz
  have h10 := h1.ext xz
  have h20 := h2.ext xz
  have ki_0 := bxi.c 0 (.bool s1) rfl
  have ki_1 := bxi.c 1 (.slice A1 L1 c1) rfl
  have ki_2 := bxi.c 2 (.slice B1 M1 d1) rfl
  have ki_3 := bxi.c 3 (.bool s2) rfl
  have ki_4 := bxi.c 4 (.slice A2 L2 c2) rfl
  have ki_5 := bxi.c 5 (.slice B2 M2 d2) rfl
  have kr_0 := bxr.c 0 (.bool false) rfl
  have kr_1 := bxr.c 1 (.slice none 0 0) rfl
  have kr_2 := bxr.c 2 (.slice none 0 0) rfl
  have kr_3 := bxr.c 3 (.bool false) rfl
  have kr_4 := bxr.c 4 (.slice none 0 0) rfl
  have kr_5 := bxr.c 5 (.slice none 0 0) rfl
  have t1i_0 := fun (o0 : Obj) => ((Ext.alloc w2 o0).cell (bxi.c 0 (.bool s1) rfl))
  have t1i_1 := fun (o0 : Obj) => ((Ext.alloc w2 o0).cell (bxi.c 1 (.slice A1 L1 c1) rfl))
  have t1i_2 := fun (o0 : Obj) => ((Ext.alloc w2 o0).cell (bxi.c 2 (.slice B1 M1 d1) rfl))
  have t1i_3 := fun (o0 : Obj) => ((Ext.alloc w2 o0).cell (bxi.c 3 (.bool s2) rfl))
  have t1i_4 := fun (o0 : Obj) => ((Ext.alloc w2 o0).cell (bxi.c 4 (.slice A2 L2 c2) rfl))
  have t1i_5 := fun (o0 : Obj) => ((Ext.alloc w2 o0).cell (bxi.c 5 (.slice B2 M2 d2) rfl))
  have t1r_0 := fun (o0 : Obj) => ((Ext.alloc w2 o0).cell (bxr.c 0 (.bool false) rfl))
  have t1r_1 := fun (o0 : Obj) => ((Ext.alloc w2 o0).cell (bxr.c 1 (.slice none 0 0) rfl))
  have t1r_2 := fun (o0 : Obj) => ((Ext.alloc w2 o0).cell (bxr.c 2 (.slice none 0 0) rfl))
  have t1r_3 := fun (o0 : Obj) => ((Ext.alloc w2 o0).cell (bxr.c 3 (.bool false) rfl))
  have t1r_4 := fun (o0 : Obj) => ((Ext.alloc w2 o0).cell (bxr.c 4 (.slice none 0 0) rfl))
  have t1r_5 := fun (o0 : Obj) => ((Ext.alloc w2 o0).cell (bxr.c 5 (.slice none 0 0) rfl))
  go_wp2_with fail
  clear ki_0 ki_1 ki_2 ki_3 ki_4 ki_5 kr_0 kr_1 kr_2 kr_3 kr_4 kr_5 t1i_0 t1i_1 t1i_2 t1i_3 t1i_4 t1i_5 t1r_0 t1r_1 t1r_2 t1r_3 t1r_4 t1r_5
  obtain ⟨w3, hw⟩ : ∃ z : World, z = (w2.alloc (.cells #[.bool spa, .slice Apa Lpa cpa, .slice Bpa Mpa dpa, .bool spb, .slice Apb Lpb cpb, .slice Bpb Mpb dpb] 29)) := ⟨_, rfl⟩
  rw [← hw]
  have x3 : Ext w2 w3 := by rw [hw]; exact (Ext.alloc _ _)
  replace bxi := bxi.ext x3
  replace bxr := bxr.ext x3
  have bxv : BK w3 (w2.heap.size) 29 #[.bool spa, .slice Apa Lpa cpa, .slice Bpa Mpa dpa, .bool spb, .slice Apb Lpb cpb, .slice Bpb Mpb dpb] := by rw [hw]; have h5 := (BK.new w2 #[.bool spa, .slice Apa Lpa cpa, .slice Bpa Mpa dpa, .bool spb, .slice Apb Lpb cpb, .slice Bpb Mpb dpb] 29); simpa only [World.size_alloc] using h5
  have szw3 : w3.heap.size = w2.heap.size + 1 := by rw [hw]; simp only [World.size_alloc]
  clear hw
  have HV : Hid (VB w3 g 1 w2.heap.size 0 0) := VB.mk bxv ((HP.out.1.ext x3).mono (by omega)) ((HP.out.2.ext x3).mono (by omega))
  have hxv : Ext w2 w3 := x3
  clear HP bxv bxi bxr h1 h2 hc
  obtain ⟨bv, hbv⟩ : ∃ b, b = w2.heap.size := ⟨_, rfl⟩
  rw [← hbv] at HV
  rw [← hbv]
  have hbv2 : w2.heap.size ≤ bv := by omega
  clear hbv
  go_loopg [6] qs.length (fun kk iv wr => ∃ (j D : Nat) (z : Int), iv = .int .i64 z ∧ z + 1 = (j : Int) ∧ j ≤ qs.length ∧ Hid (D = 1 + (qs.length - j) * (N + N + 1)) ∧ Hid (VB wr g D bv (ev q1 q2 (qs.drop j)).1 (ev q1 q2 (qs.drop j)).2) ∧ Hid (j ≤ kk) ∧ Ext w2 wr)
  case atStart => exact ⟨qs.length, 1, (L0 : Int) - 1, by go_num, by have h5 := HL.out; omega, Nat.le_refl _, (by show _ = _; rw [Nat.sub_self, Nat.zero_mul]), (by show VB _ _ _ _ _ _; rw [List.drop_length]; exact HV.out), Nat.le_refl _, hxv⟩
  case round =>
    clear HV
    obtain ⟨j, D, z, rfl, hz, hj, HD, HVB, HK, hxr⟩ := hrel
    by_cases hlt : 1 ≤ j
    · obtain ⟨m, rfl⟩ : ∃ m, j = m + 1 := ⟨j - 1, by omega⟩
      obtain rfl : z = (m : Int) := by omega
      clear hz
      have hm0 : (0 : Int) ≤ (m : Int) := by omega
      have hm1 : (m : Int) < (L0 : Int) := by have := HL.out; omega
      have hDb : D + (N + N + 1) ≤ 47 := by
        have h5 := HD.out
        have h6 : (qs.length - (m + 1) + 1) * (N + N + 1) ≤ qs.length * (N + N + 1) := Nat.mul_le_mul_right _ (by omega)
        rw [Nat.succ_mul] at h6
        omega
      have HD2 : Hid (D + N + N + 1 = 1 + (qs.length - m) * (N + N + 1)) := by
        show _ = _
        have h5 := HD.out
        rw [show qs.length - m = qs.length - (m + 1) + 1 by omega, Nat.succ_mul]
        omega
      obtain ⟨sla, Ala, cla, Lla, Bla, dla, Mla, slb, Alb, clb, Llb, Blb, dlb, Mlb, bxv, lo, hi⟩ := HVB.out
      obtain ⟨b, off, sk, Ak, ck, Lk, Bk, dk, Mk, rfl, hb0, kc_0, kc_1, kc_2, hk⟩ := (hc0.ext hxr) m (by omega)
      have bxi := bxi0.ext hxr
      have h1 := h10.ext hxr
      have h2 := h20.ext hxr
      have ibv := bxv.isBox
      have HEV := Lib.hid (ev_cons q1 q2 qs m (by omega))
      have szr := hxr.size
      go_upto_region 5 with fail
      have kv_0 := bxv.c 0 (.bool sla) rfl
      have fv_0 := bxv.f 0
      have kv_1 := bxv.c 1 (.slice Ala Lla cla) rfl
      have fv_1 := bxv.f 1
      have kv_2 := bxv.c 2 (.slice Bla Mla dla) rfl
      have fv_2 := bxv.f 2
      have kv_3 := bxv.c 3 (.bool slb) rfl
      have fv_3 := bxv.f 3
      have kv_4 := bxv.c 4 (.slice Alb Llb clb) rfl
      have fv_4 := bxv.f 4
      have kv_5 := bxv.c 5 (.slice Blb Mlb dlb) rfl
      have fv_5 := bxv.f 5
      have ki_0 := bxi.c 0 (.bool s1) rfl
      have ki_1 := bxi.c 1 (.slice A1 L1 c1) rfl
      have ki_2 := bxi.c 2 (.slice B1 M1 d1) rfl
      have ki_3 := bxi.c 3 (.bool s2) rfl
      have ki_4 := bxi.c 4 (.slice A2 L2 c2) rfl
      have ki_5 := bxi.c 5 (.slice B2 M2 d2) rfl
      have HKS : Hid (∀ w', Ext wr w' → (w'.cell? ⟨bv, 0, none⟩ = some (.bool sla) ∧ w'.cell? ⟨bv, 1, none⟩ = some (.slice Ala Lla cla) ∧ w'.cell? ⟨bv, 2, none⟩ = some (.slice Bla Mla dla) ∧ w'.cell? ⟨bv, 3, none⟩ = some (.bool slb) ∧ w'.cell? ⟨bv, 4, none⟩ = some (.slice Alb Llb clb) ∧ w'.cell? ⟨bv, 5, none⟩ = some (.slice Blb Mlb dlb) ∧ w'.cell? ⟨w.heap.size, 0, none⟩ = some (.bool s1) ∧ w'.cell? ⟨w.heap.size, 1, none⟩ = some (.slice A1 L1 c1) ∧ w'.cell? ⟨w.heap.size, 2, none⟩ = some (.slice B1 M1 d1) ∧ w'.cell? ⟨w.heap.size, 3, none⟩ = some (.bool s2) ∧ w'.cell? ⟨w.heap.size, 4, none⟩ = some (.slice A2 L2 c2) ∧ w'.cell? ⟨w.heap.size, 5, none⟩ = some (.slice B2 M2 d2) ∧ w'.cell? ⟨b, off + m * 3, none⟩ = some (.bool sk) ∧ w'.cell? ⟨b, off + m * 3 + 1, none⟩ = some (.slice Ak Lk ck) ∧ w'.cell? ⟨b, off + m * 3 + 2, none⟩ = some (.slice Bk Mk dk))) := fun w' hk => ⟨hk.cell kv_0, hk.cell kv_1, hk.cell kv_2, hk.cell kv_3, hk.cell kv_4, hk.cell kv_5, hk.cell ki_0, hk.cell ki_1, hk.cell ki_2, hk.cell ki_3, hk.cell ki_4, hk.cell ki_5, hk.cell kc_0, hk.cell kc_1, hk.cell kc_2⟩
      refine wp_region_tail 9 (fun w' => w'.cell? ⟨bv, 0, none⟩ = some (.bool sla) ∧ w'.cell? ⟨bv, 1, none⟩ = some (.slice Ala Lla cla) ∧ w'.cell? ⟨bv, 2, none⟩ = some (.slice Bla Mla dla) ∧ w'.cell? ⟨bv, 3, none⟩ = some (.bool slb) ∧ w'.cell? ⟨bv, 4, none⟩ = some (.slice Alb Llb clb) ∧ w'.cell? ⟨bv, 5, none⟩ = some (.slice Blb Mlb dlb) ∧ w'.cell? ⟨w.heap.size, 0, none⟩ = some (.bool s1) ∧ w'.cell? ⟨w.heap.size, 1, none⟩ = some (.slice A1 L1 c1) ∧ w'.cell? ⟨w.heap.size, 2, none⟩ = some (.slice B1 M1 d1) ∧ w'.cell? ⟨w.heap.size, 3, none⟩ = some (.bool s2) ∧ w'.cell? ⟨w.heap.size, 4, none⟩ = some (.slice A2 L2 c2) ∧ w'.cell? ⟨w.heap.size, 5, none⟩ = some (.slice B2 M2 d2) ∧ w'.cell? ⟨b, off + m * 3, none⟩ = some (.bool sk) ∧ w'.cell? ⟨b, off + m * 3 + 1, none⟩ = some (.slice Ak Lk ck) ∧ w'.cell? ⟨b, off + m * 3 + 2, none⟩ = some (.slice Bk Mk dk)) (by kernel_rfl) ?_ (fun hHeld inv => ?_)
      · (with_reducible refine HKS.out _ ?_; (with_reducible repeat' first | exact Ext.refl _ | assumption | apply Ext.alloc_r | apply Ext.drew_r | apply Ext.drewN_r | refine Ext.trans ?_ ‹Ext _ _›))
      refine wpAnyT_take (i := 0) (v := ?tv0) rfl (by kernel_rfl) (by kernel_rfl) (by kernel_rfl) (by kernel_rfl) inv (fun _ _ _ h => h) (Or.inl ⟨by rfl, ?th0⟩) (by assumption) (fun inv => ?tr0)
      case th0 =>
        intro w5 hSw
        (try dsimp only at hSw)
        go_simp
        (try with_reducible rfl)
      try simp only [Act.put, List.setIfInBounds_toArray]
      refine wpAnyT_take (i := 1) (v := ?tv1) rfl (by kernel_rfl) (by kernel_rfl) (by kernel_rfl) (by kernel_rfl) inv (fun _ _ _ h => h) (Or.inl ⟨by rfl, ?th1⟩) (by assumption) (fun inv => ?tr1)
      case th1 =>
        intro w5 hSw
        (try dsimp only at hSw)
        go_simp
        (try with_reducible rfl)
      try simp only [Act.put]
      refine wpAnyT_take (i := 3) (v := ?tv3) rfl (by kernel_rfl) (by kernel_rfl) (by kernel_rfl) (by kernel_rfl) inv (fun _ _ _ h => h) (Or.inl ⟨by rfl, ?th3⟩) (by assumption) (fun inv => ?tr3)
      case th3 =>
        intro w5 hSw
        (try dsimp only at hSw)
        go_simp
        (try with_reducible rfl)
      try simp only [Act.put]
      refine wpAnyT_take (i := 4) (v := ?tv4) rfl (by kernel_rfl) (by kernel_rfl) (by kernel_rfl) (by kernel_rfl) inv (fun _ _ _ h => h) (Or.inl ⟨by rfl, ?th4⟩) (by assumption) (fun inv => ?tr4)
      case th4 =>
        intro w5 hSw
        (try dsimp only at hSw)
        go_simp
        (try with_reducible rfl)
      try simp only [Act.put]
      refine wpAnyT_take (i := 5) (v := ?tv5) rfl (by kernel_rfl) (by kernel_rfl) (by kernel_rfl) (by kernel_rfl) inv (fun _ _ _ h => h) (Or.inl ⟨by rfl, ?th5⟩) (by assumption) (fun inv => ?tr5)
      case th5 =>
        intro w5 hSw
        (try dsimp only at hSw)
        go_simp
        (try with_reducible rfl)
      try simp only [Act.put]
      refine wpAnyT_take (i := 6) (v := ?tv6) rfl (by kernel_rfl) (by kernel_rfl) (by kernel_rfl) (by kernel_rfl) inv (fun _ _ _ h => h) (Or.inl ⟨by rfl, ?th6⟩) (by assumption) (fun inv => ?tr6)
      case th6 =>
        intro w5 hSw
        (try dsimp only at hSw)
        go_simp
        (try with_reducible rfl)
      try simp only [Act.put]
      refine wpAnyT_head (i := 2) (by kernel_rfl) rfl (by kernel_rfl) inv (fun K hK => ?_)
      clear inv
      go_simp
      (go_at_call 28; refine (imul_r (lo.rv.ext (by with_reducible repeat' first | exact Ext.refl _ | assumption | apply Ext.alloc_r | apply Ext.drew_r | apply Ext.drewN_r | refine Ext.trans ?_ ‹Ext _ _›)) (hi.rv.ext (by with_reducible repeat' first | exact Ext.refl _ | assumption | apply Ext.alloc_r | apply Ext.drew_r | apply Ext.drewN_r | refine Ext.trans ?_ ‹Ext _ _›)) (h1.ext (by with_reducible repeat' first | exact Ext.refl _ | assumption | apply Ext.alloc_r | apply Ext.drew_r | apply Ext.drewN_r | refine Ext.trans ?_ ‹Ext _ _›)) (h2.ext (by with_reducible repeat' first | exact Ext.refl _ | assumption | apply Ext.alloc_r | apply Ext.drew_r | apply Ext.drewN_r | refine Ext.trans ?_ ‹Ext _ _›)) (by omega)).mono ?_; rintro e w1 ⟨sma, Ama, cma, Lma, Bma, dma, Mma, smb, Amb, cmb, Lmb, Bmb, dmb, Mmb, rfl, ma, mb, x1⟩)
      refine hK.out _ _ ?_ (fun hHeld inv => ?_)
      · clear hK; (try dsimp only)
        (with_reducible refine HKS.out _ ?_; (with_reducible repeat' first | exact Ext.refl _ | assumption | apply Ext.alloc_r | apply Ext.drew_r | apply Ext.drewN_r | refine Ext.trans ?_ ‹Ext _ _›))
      clear hK K
      try simp only [Act.put, List.setIfInBounds_toArray, List.set_cons_zero, List.set_cons_succ]
      refine wpAnyT_head (i := 7) (by kernel_rfl) rfl (by kernel_rfl) inv (fun K hK => ?_)
      clear inv
      go_simp
      (go_at_call 35; refine (point_r (hk.ext (by with_reducible repeat' first | exact Ext.refl _ | assumption | apply Ext.alloc_r | apply Ext.drew_r | apply Ext.drewN_r | refine Ext.trans ?_ ‹Ext _ _›)) (by omega)).mono ?_; rintro e w2 ⟨spa, Apa, cpa, Lpa, Bpa, dpa, Mpa, spb, Apb, cpb, Lpb, Bpb, dpb, Mpb, rfl, pa, pb, x2⟩)
      refine hK.out _ _ ?_ (fun hHeld inv => ?_)
      · clear hK; (try dsimp only)
        (with_reducible refine HKS.out _ ?_; (with_reducible repeat' first | exact Ext.refl _ | assumption | apply Ext.alloc_r | apply Ext.drew_r | apply Ext.drewN_r | refine Ext.trans ?_ ‹Ext _ _›))
      clear hK K
      try simp only [Act.put, List.setIfInBounds_toArray, List.set_cons_zero, List.set_cons_succ]
      refine wpAnyT_head (i := 8) (by kernel_rfl) rfl (by kernel_rfl) inv (fun K hK => ?_)
      clear inv
      go_simp
      (go_at_call 25; refine (iadd_r (ma.rv.ext (by with_reducible repeat' first | exact Ext.refl _ | assumption | apply Ext.alloc_r | apply Ext.drew_r | apply Ext.drewN_r | refine Ext.trans ?_ ‹Ext _ _›)) (mb.rv.ext (by with_reducible repeat' first | exact Ext.refl _ | assumption | apply Ext.alloc_r | apply Ext.drew_r | apply Ext.drewN_r | refine Ext.trans ?_ ‹Ext _ _›)) (pa.rv.ext (by with_reducible repeat' first | exact Ext.refl _ | assumption | apply Ext.alloc_r | apply Ext.drew_r | apply Ext.drewN_r | refine Ext.trans ?_ ‹Ext _ _›)) (pb.rv.ext (by with_reducible repeat' first | exact Ext.refl _ | assumption | apply Ext.alloc_r | apply Ext.drew_r | apply Ext.drewN_r | refine Ext.trans ?_ ‹Ext _ _›)) (by omega) (by omega)).mono ?_; rintro e w3 ⟨sna, Ana, cna, Lna, Bna, dna, Mna, snb, Anb, cnb, Lnb, Bnb, dnb, Mnb, rfl, na, nb, x3⟩; have yln : Ext wr w3 := (by with_reducible repeat' first | exact Ext.refl _ | assumption | apply Ext.alloc_r | apply Ext.drew_r | apply Ext.drewN_r | refine Ext.trans ?_ ‹Ext _ _›); have vn_0 := (bxv.ext yln).c 0 (.bool sla) rfl; have un_0 := (bxv.ext yln).f 0; have vn_1 := (bxv.ext yln).c 1 (.slice Ala Lla cla) rfl; have un_1 := (bxv.ext yln).f 1; have vn_2 := (bxv.ext yln).c 2 (.slice Bla Mla dla) rfl; have un_2 := (bxv.ext yln).f 2; have vn_3 := (bxv.ext yln).c 3 (.bool slb) rfl; have un_3 := (bxv.ext yln).f 3; have vn_4 := (bxv.ext yln).c 4 (.slice Alb Llb clb) rfl; have un_4 := (bxv.ext yln).f 4; have vn_5 := (bxv.ext yln).c 5 (.slice Blb Mlb dlb) rfl; have un_5 := (bxv.ext yln).f 5; clear yln)
      refine hK.out _ _ ?_ (fun hHeld inv => ?_)
      · clear hK; (try dsimp only)
        (with_reducible refine HKS.out _ ?_; (with_reducible repeat' first | exact Ext.refl _ | assumption | apply Ext.alloc_r | apply Ext.drew_r | apply Ext.drewN_r | refine Ext.trans ?_ ‹Ext _ _›))
      clear hK K
      try simp only [Act.put, List.setIfInBounds_toArray, List.set_cons_zero, List.set_cons_succ]
      refine wpAnyT_tail (i := 9) (by kernel_rfl) rfl (by kernel_rfl) (fun K hK => ?_)
      (try clear inv)
      go_simp
      refine hK.out _ _ ?_
      clear hK K
      try simp only [Act.put, List.setIfInBounds_toArray, List.set_cons_zero, List.set_cons_succ]
      refine wpAnyT_done (by kernel_rfl) ?_ _
      clear HKS
      go_wp2_with fail
      go_roundg m
      case measure => have h5 : m + 1 ≤ gk := HK.out; omega
      case rel =>
        have t1 := x1.size
        have t2 := x2.size
        have t3 := x3.size
        simp only [World.size_drew] at t1
        refine ⟨m, D + N + N + 1, (m : Int) - 1, by go_num, by omega, by omega, HD2, ?_, Nat.le_refl _, ?_⟩
        · show VB _ _ _ _ _ _
          rw [HEV.out.1, HEV.out.2]
          refine VB.mk (s := sna) (A := Ana) (c := cna) (L := Lna) (B := Bna) (d := dna) (M := Mna) (s' := snb) (A' := Anb) (c' := cnb) (L' := Lnb) (B' := Bnb) (d' := dnb) (M' := Mnb) ?_ ((na.mono (by omega)).kept ?_) ((nb.mono (by omega)).kept ?_)
          · (repeat' (first | with_reducible assumption | with_reducible apply BK.set12 | with_reducible apply BK.set6 | with_reducible apply BK.set3 | (with_reducible apply BK.far3; (case hne => (first | assumption | omega | (simp; done) | (simp only [World.size_alloc, World.size_drew]; omega)))) | (with_reducible apply BK.new_; (first | rfl | (simp; done))) | with_reducible apply BK.alloc_ | with_reducible apply BK.drew_ | with_reducible refine BK.ext ?_ ‹Ext _ _›))
          · (repeat' (first | with_reducible exact Kept.refl _ | with_reducible apply Kept.alloc_r | with_reducible apply Kept.drew_r | (with_reducible apply Kept.setR6; (case hb => ((repeat' (first | with_reducible assumption | with_reducible apply IsBox.set_ | (with_reducible apply IsBox.new; (first | (with_reducible rfl) | simp); done) | with_reducible apply IsBox.alloc_ | with_reducible apply IsBox.drew_ | with_reducible refine IsBox.ext ?_ ‹Ext _ _›)); done))) | (with_reducible apply Kept.setA6; (case hb => ((repeat' (first | with_reducible assumption | with_reducible apply IsBox.set_ | (with_reducible apply IsBox.new; (first | (with_reducible rfl) | simp); done) | with_reducible apply IsBox.alloc_ | with_reducible apply IsBox.drew_ | with_reducible refine IsBox.ext ?_ ‹Ext _ _›)); done))) | (with_reducible apply Kept.setI6; (case hb => ((repeat' (first | with_reducible assumption | with_reducible apply IsBox.set_ | (with_reducible apply IsBox.new; (first | (with_reducible rfl) | simp); done) | with_reducible apply IsBox.alloc_ | with_reducible apply IsBox.drew_ | with_reducible refine IsBox.ext ?_ ‹Ext _ _›)); done))) | with_reducible refine Kept.trans ?_ (Ext.kept ‹Ext _ _›)))
          · (repeat' (first | with_reducible exact Kept.refl _ | with_reducible apply Kept.alloc_r | with_reducible apply Kept.drew_r | (with_reducible apply Kept.setR6; (case hb => ((repeat' (first | with_reducible assumption | with_reducible apply IsBox.set_ | (with_reducible apply IsBox.new; (first | (with_reducible rfl) | simp); done) | with_reducible apply IsBox.alloc_ | with_reducible apply IsBox.drew_ | with_reducible refine IsBox.ext ?_ ‹Ext _ _›)); done))) | (with_reducible apply Kept.setA6; (case hb => ((repeat' (first | with_reducible assumption | with_reducible apply IsBox.set_ | (with_reducible apply IsBox.new; (first | (with_reducible rfl) | simp); done) | with_reducible apply IsBox.alloc_ | with_reducible apply IsBox.drew_ | with_reducible refine IsBox.ext ?_ ‹Ext _ _›)); done))) | (with_reducible apply Kept.setI6; (case hb => ((repeat' (first | with_reducible assumption | with_reducible apply IsBox.set_ | (with_reducible apply IsBox.new; (first | (with_reducible rfl) | simp); done) | with_reducible apply IsBox.alloc_ | with_reducible apply IsBox.drew_ | with_reducible refine IsBox.ext ?_ ‹Ext _ _›)); done))) | with_reducible refine Kept.trans ?_ (Ext.kept ‹Ext _ _›)))
        · have hxz := hxr
          (repeat' (first | with_reducible exact Ext.refl _ | with_reducible assumption | with_reducible apply Ext.alloc_r | with_reducible apply Ext.drew_r | with_reducible apply Ext.drewN_r | with_reducible apply Ext.set_r | with_reducible exact Nat.le_refl _ | omega | with_reducible refine Ext.trans ?_ ‹Ext _ _›))
    · have hj0 : j = 0 := by omega
      have HD2 : Hid (D = 1 + qs.length * (N + N + 1)) := by
        show _ = _
        have h5 := HD.out
        rw [hj0, Nat.sub_zero] at h5
        exact h5
      obtain ⟨sla, Ala, cla, Lla, Bla, dla, Mla, slb, Alb, clb, Llb, Blb, dlb, Mlb, bxv, lo, hi⟩ := HVB.out
      have bxr := bxr0.ext hxr
      have szr := hxr.size
      have hz2 : z < 0 := by omega
      have HE : Hid (ev q1 q2 (qs.drop j) = ev q1 q2 qs) := by show _ = _; rw [hj0, List.drop_zero]
      have lo2 := lo.mono (g' := w.heap.size) (by omega)
      have hi2 := hi.mono (g' := w.heap.size) (by omega)
      clear HVB hj0 hz lo hi
      have kv_0 := bxv.c 0 (.bool sla) rfl
      have kv_1 := bxv.c 1 (.slice Ala Lla cla) rfl
      have kv_2 := bxv.c 2 (.slice Bla Mla dla) rfl
      have kv_3 := bxv.c 3 (.bool slb) rfl
      have kv_4 := bxv.c 4 (.slice Alb Llb clb) rfl
      have kv_5 := bxv.c 5 (.slice Blb Mlb dlb) rfl
      have kr_0 := bxr.c 0 (.bool false) rfl
      have fr_0 := bxr.f 0
      have kr_1 := bxr.c 1 (.slice none 0 0) rfl
      have fr_1 := bxr.f 1
      have kr_2 := bxr.c 2 (.slice none 0 0) rfl
      have fr_2 := bxr.f 2
      have kr_3 := bxr.c 3 (.bool false) rfl
      have fr_3 := bxr.f 3
      have kr_4 := bxr.c 4 (.slice none 0 0) rfl
      have fr_4 := bxr.f 4
      have kr_5 := bxr.c 5 (.slice none 0 0) rfl
      have fr_5 := bxr.f 5
      go_wp2_with fail
      clear kv_0 kv_1 kv_2 kv_3 kv_4 kv_5 kr_0 fr_0 kr_1 fr_1 kr_2 fr_2 kr_3 fr_3 kr_4 fr_4 kr_5 fr_5
      obtain ⟨w4, hw⟩ : ∃ z : World, z = ((((((wr.setCell ⟨w.heap.size + 1, 0, none⟩ (.bool sla)).setCell ⟨w.heap.size + 1, 1, none⟩ (.slice Ala Lla cla)).setCell ⟨w.heap.size + 1, 2, none⟩ (.slice Bla Mla dla)).setCell ⟨w.heap.size + 1, 3, none⟩ (.bool slb)).setCell ⟨w.heap.size + 1, 4, none⟩ (.slice Alb Llb clb)).setCell ⟨w.heap.size + 1, 5, none⟩ (.slice Blb Mlb dlb)) := ⟨_, rfl⟩
      rw [← hw]
      have kw4 : Kept wr w4 := by rw [hw]; exact (Kept.set_ (Kept.set_ (Kept.set_ (Kept.set_ (Kept.set_ (Kept.set_ (Kept.refl _) bxr.isBox plain_iv) (IsBox.set_ bxr.isBox) plain_iv) (IsBox.set_ (IsBox.set_ bxr.isBox)) plain_iv) (IsBox.set_ (IsBox.set_ (IsBox.set_ bxr.isBox))) plain_iv) (IsBox.set_ (IsBox.set_ (IsBox.set_ (IsBox.set_ bxr.isBox)))) plain_iv) (IsBox.set_ (IsBox.set_ (IsBox.set_ (IsBox.set_ (IsBox.set_ bxr.isBox))))) plain_iv)
      have nbv : BK w4 (bv) 29 #[.bool sla, .slice Ala Lla cla, .slice Bla Mla dla, .bool slb, .slice Alb Llb clb, .slice Blb Mlb dlb] := by rw [hw]; exact (BK.far (BK.far (BK.far (BK.far (BK.far (BK.far bxv (show bv ≠ w.heap.size + 1 by omega) 0 _) (show bv ≠ w.heap.size + 1 by omega) 1 _) (show bv ≠ w.heap.size + 1 by omega) 2 _) (show bv ≠ w.heap.size + 1 by omega) 3 _) (show bv ≠ w.heap.size + 1 by omega) 4 _) (show bv ≠ w.heap.size + 1 by omega) 5 _)
      have nbr : BK w4 (w.heap.size + 1) 29 #[.bool sla, .slice Ala Lla cla, .slice Bla Mla dla, .bool slb, .slice Alb Llb clb, .slice Blb Mlb dlb] := by rw [hw]; exact (BK.set (i := 5) (u := .slice Blb Mlb dlb) (vs' := #[.bool sla, .slice Ala Lla cla, .slice Bla Mla dla, .bool slb, .slice Alb Llb clb, .slice Blb Mlb dlb]) (BK.set (i := 4) (u := .slice Alb Llb clb) (vs' := #[.bool sla, .slice Ala Lla cla, .slice Bla Mla dla, .bool slb, .slice Alb Llb clb, .slice none 0 0]) (BK.set (i := 3) (u := .bool slb) (vs' := #[.bool sla, .slice Ala Lla cla, .slice Bla Mla dla, .bool slb, .slice none 0 0, .slice none 0 0]) (BK.set (i := 2) (u := .slice Bla Mla dla) (vs' := #[.bool sla, .slice Ala Lla cla, .slice Bla Mla dla, .bool false, .slice none 0 0, .slice none 0 0]) (BK.set (i := 1) (u := .slice Ala Lla cla) (vs' := #[.bool sla, .slice Ala Lla cla, .slice none 0 0, .bool false, .slice none 0 0, .slice none 0 0]) (BK.set (i := 0) (u := .bool sla) (vs' := #[.bool sla, .slice none 0 0, .slice none 0 0, .bool false, .slice none 0 0, .slice none 0 0]) bxr rfl) rfl) rfl) rfl) rfl) rfl)
      have x4 : Ext w w4 := by rw [hw]; have hxp : Ext w wr := (by with_reducible repeat' first | exact Ext.refl _ | assumption | apply Ext.alloc_r | apply Ext.drew_r | apply Ext.drewN_r | refine Ext.trans ?_ ‹Ext _ _›); exact (Ext.set_ (Ext.set_ (Ext.set_ (Ext.set_ (Ext.set_ (Ext.set_ hxp (show _ ≤ w.heap.size + 1 by omega)) (show _ ≤ w.heap.size + 1 by omega)) (show _ ≤ w.heap.size + 1 by omega)) (show _ ≤ w.heap.size + 1 by omega)) (show _ ≤ w.heap.size + 1 by omega)) (show _ ≤ w.heap.size + 1 by omega))
      clear bxv
      clear bxr
      have bxv := nbv
      clear nbv
      have bxr := nbr
      clear nbr
      have szw4 : w4.heap.size = wr.heap.size := by rw [hw]; simp
      replace lo2 := (lo2.ext (by with_reducible repeat' first | exact Ext.refl _ | assumption | apply Ext.alloc_r | apply Ext.drew_r | apply Ext.drewN_r | refine Ext.trans ?_ ‹Ext _ _›)).kept kw4
      replace hi2 := (hi2.ext (by with_reducible repeat' first | exact Ext.refl _ | assumption | apply Ext.alloc_r | apply Ext.drew_r | apply Ext.drewN_r | refine Ext.trans ?_ ‹Ext _ _›)).kept kw4
      clear hw kw4
      have HU := Lib.hid lo2
      have HV := Lib.hid hi2
      clear lo2 hi2
      have kr_0 := bxr.c 0 (.bool sla) rfl
      have kr_1 := bxr.c 1 (.slice Ala Lla cla) rfl
      have kr_2 := bxr.c 2 (.slice Bla Mla dla) rfl
      have kr_3 := bxr.c 3 (.bool slb) rfl
      have kr_4 := bxr.c 4 (.slice Alb Llb clb) rfl
      have kr_5 := bxr.c 5 (.slice Blb Mlb dlb) rfl
      refine bodyPost_ret (v := Value.agg #[Value.bool sla, Value.slice Ala Lla cla, Value.slice Bla Mla dla, Value.bool slb, Value.slice Alb Llb clb, Value.slice Blb Mlb dlb]) (by simp [results, Tryz.results19, go_sem, kr_0, kr_1, kr_2, kr_3, kr_4, kr_5]) rfl ?_
      exact ⟨_, _, _, _, _, _, _, _, _, _, _, _, _, _, rfl, by rw [← HE.out, ← HD2.out]; exact HU.out, by rw [← HE.out, ← HD2.out]; exact HV.out, x4⟩
end Go.Proofs.YtehhkeenjlpikaaGreat
