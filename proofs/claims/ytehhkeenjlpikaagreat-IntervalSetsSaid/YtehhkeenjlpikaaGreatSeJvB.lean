/- The hull of a list of fractions of the reference. -/
import Derived.Test.YtehhkeenjlpikaaGreatSeJvA
import Derived.Test.YtehhkeenjlpikaaGreatTail
import Derived.Deep.RegionHeldLaw
import Derived.Deep.LoopGhost
import Derived.Deep.QuietTactic
import Derived.BigQuiet
namespace Go.Proofs.YtehhkeenjlpikaaGreat
open Go.RowKit
theorem getK {qs : List Rat} {j : Nat} (h : j < qs.length) : qs.getD j 0 = qs[j] := by simp [List.getD, h]
/-- What a hull of a list is after the first element and j more. -/
def accQ (f : Rat → Rat → Rat) (qs : List Rat) : Nat → Rat
  | 0 => qs.getD 0 0
  | j + 1 => f (accQ f qs j) (qs.getD (j + 1) 0)
/-- A list of fractions of the reference in memory, their parts of at most K bits. -/
def CQ (w : World) (b off K : Nat) (qs : List Rat) : Prop := ∀ j (h : j < qs.length), ∃ g A c L h' B d M, w.cell? ⟨b, off + j * 4, none⟩ = some (.int .i64 g) ∧ w.cell? ⟨b, off + j * 4 + 1, none⟩ = some (.slice A L c) ∧ w.cell? ⟨b, off + j * 4 + 2, none⟩ = some (.int .i64 h') ∧ w.cell? ⟨b, off + j * 4 + 3, none⟩ = some (.slice B M d) ∧ QR w g A c L h' B d M K qs[j]
theorem CQ.ext {w w' : World} {b off K : Nat} {qs : List Rat} (h : CQ w b off K qs) (hx : Ext w w') : CQ w' b off K qs := fun j hj => by
  obtain ⟨g, A, c, L, h', B, d, M, h0, h1, h2, h3, h4⟩ := h j hj
  exact ⟨g, A, c, L, h', B, d, M, hx.cell h0, hx.cell h1, hx.cell h2, hx.cell h3, h4.ext hx⟩
/-- An interval of the reference in a box of the call's own. -/
def JB (w : World) (b K : Nat) (p q : Rat) : Prop := ∃ g A c L h B d M g' A' c' L' h' B' d' M', BK w b 38 #[.int .i64 g, .slice A L c, .int .i64 h, .slice B M d, .int .i64 g', .slice A' L' c', .int .i64 h', .slice B' M' d'] ∧ QR w g A c L h B d M K p ∧ QR w g' A' c' L' h' B' d' M' K q
theorem JB.mk {w : World} {b K : Nat} {p q : Rat} {g h g' h' : Int} {A B A' B' : Option Addr} {c L d M c' L' d' M' : Nat} (hb : BK w b 38 #[.int .i64 g, .slice A L c, .int .i64 h, .slice B M d, .int .i64 g', .slice A' L' c', .int .i64 h', .slice B' M' d']) (h1 : QR w g A c L h B d M K p) (h2 : QR w g' A' c' L' h' B' d' M' K q) : JB w b K p q := ⟨g, A, c, L, h, B, d, M, g', A', c', L', h', B', d', M', hb, h1, h2⟩
set_option maxHeartbeats 4000000 in
set_option maxRecDepth 100000 in
theorem jhull_r {w : World} {K b off L0 c0 : Nat} {qs : List Rat} (hc : CQ w b off K qs) (hL : L0 = qs.length) (hl1 : 1 ≤ qs.length) (hl2 : qs.length ≤ 100) (hK : K ≤ 100000000) :
    Calls Tryz.prog 40 #[.slice (some ⟨b, off, none⟩) L0 c0] w (RetJ w K (accQ minQ qs (qs.length - 1)) (accQ maxQ qs (qs.length - 1))) := by
  have hL2 : L0 ≤ 100 := by omega
  have hL3 : 0 < L0 := by omega
  have HL := Lib.hid hL
  clear hL
  obtain ⟨g0, A0, ck0, Lk0, h0, B0, d0, M0, k0_0, k0_1, k0_2, k0_3, h_0⟩ := hc 0 (by omega)
  rw [Nat.zero_mul, Nat.add_zero] at k0_0 k0_1 k0_2 k0_3
  have h_0' : QR w g0 A0 ck0 Lk0 h0 B0 d0 M0 K (accQ minQ qs 0) := by rw [← getK (by omega)] at h_0; exact h_0
  clear h_0
  have t0_0 := fun o => (Ext.alloc w o).cell k0_0
  have t0_1 := fun o => (Ext.alloc w o).cell k0_1
  have t0_2 := fun o => (Ext.alloc w o).cell k0_2
  have t0_3 := fun o => (Ext.alloc w o).cell k0_3
  go_enter Tryz.func40, Tryz.ntmps40
  go_wp2_with fail
  obtain ⟨w0, hw0⟩ : ∃ z : World, z = (w.alloc (.cells #[.int .i64 0, .slice none 0 0, .int .i64 0, .slice none 0 0, .int .i64 0, .slice none 0 0, .int .i64 0, .slice none 0 0] 38)) := ⟨_, rfl⟩
  rw [← hw0]
  have bxr : BK w0 (w.heap.size) 38 #[.int .i64 0, .slice none 0 0, .int .i64 0, .slice none 0 0, .int .i64 0, .slice none 0 0, .int .i64 0, .slice none 0 0] := by rw [hw0]; have h5 := (BK.new w #[.int .i64 0, .slice none 0 0, .int .i64 0, .slice none 0 0, .int .i64 0, .slice none 0 0, .int .i64 0, .slice none 0 0] 38); simpa only [World.size_alloc] using h5
  have hszw0 : w0.heap.size = w.heap.size + 1 := by rw [hw0]; simp only [World.size_alloc]
  have xw0 : Ext w w0 := by rw [hw0]; exact (Ext.alloc _ _)
  clear hw0
  clear t0_0 t0_1 t0_2 t0_3 k0_0 k0_1 k0_2 k0_3
  refine (jpoint_r (h_0'.ext (by with_reducible repeat' first | exact Ext.refl _ | assumption | apply Ext.alloc_r | apply Ext.drew_r | apply Ext.drewN_r | refine Ext.trans ?_ ‹Ext _ _›))).mono ?_
  rintro e w1 ⟨gpa, Apa, cpa, Lpa, hpa, Bpa, dpa, Mpa, gpb, Apb, cpb, Lpb, hpb, Bpb, dpb, Mpb, rfl, pa, pb, x1⟩
  have szw1 : w0.heap.size ≤ w1.heap.size := x1.size
  replace bxr := bxr.ext x1
  have HP := Lib.hid (And.intro pa pb)
  clear pa pb h_0'
  have kr_0 := bxr.c 0 (.int .i64 0) rfl
  have kr_1 := bxr.c 1 (.slice none 0 0) rfl
  have kr_2 := bxr.c 2 (.int .i64 0) rfl
  have kr_3 := bxr.c 3 (.slice none 0 0) rfl
  have kr_4 := bxr.c 4 (.int .i64 0) rfl
  have kr_5 := bxr.c 5 (.slice none 0 0) rfl
  have kr_6 := bxr.c 6 (.int .i64 0) rfl
  have kr_7 := bxr.c 7 (.slice none 0 0) rfl
  have t1r_0 := fun (o0 : Obj) => ((Ext.alloc w1 o0).cell (bxr.c 0 (.int .i64 0) rfl))
  have t1r_1 := fun (o0 : Obj) => ((Ext.alloc w1 o0).cell (bxr.c 1 (.slice none 0 0) rfl))
  have t1r_2 := fun (o0 : Obj) => ((Ext.alloc w1 o0).cell (bxr.c 2 (.int .i64 0) rfl))
  have t1r_3 := fun (o0 : Obj) => ((Ext.alloc w1 o0).cell (bxr.c 3 (.slice none 0 0) rfl))
  have t1r_4 := fun (o0 : Obj) => ((Ext.alloc w1 o0).cell (bxr.c 4 (.int .i64 0) rfl))
  have t1r_5 := fun (o0 : Obj) => ((Ext.alloc w1 o0).cell (bxr.c 5 (.slice none 0 0) rfl))
  have t1r_6 := fun (o0 : Obj) => ((Ext.alloc w1 o0).cell (bxr.c 6 (.int .i64 0) rfl))
  have t1r_7 := fun (o0 : Obj) => ((Ext.alloc w1 o0).cell (bxr.c 7 (.slice none 0 0) rfl))
  go_wp2_with fail
  clear kr_0 kr_1 kr_2 kr_3 kr_4 kr_5 kr_6 kr_7 t1r_0 t1r_1 t1r_2 t1r_3 t1r_4 t1r_5 t1r_6 t1r_7
  obtain ⟨w2, hw⟩ : ∃ z : World, z = (w1.alloc (.cells #[.int .i64 gpa, .slice Apa Lpa cpa, .int .i64 hpa, .slice Bpa Mpa dpa, .int .i64 gpb, .slice Apb Lpb cpb, .int .i64 hpb, .slice Bpb Mpb dpb] 38)) := ⟨_, rfl⟩
  rw [← hw]
  have x2 : Ext w1 w2 := by rw [hw]; exact (Ext.alloc _ _)
  replace bxr := bxr.ext x2
  have bxo : BK w2 (w1.heap.size) 38 #[.int .i64 gpa, .slice Apa Lpa cpa, .int .i64 hpa, .slice Bpa Mpa dpa, .int .i64 gpb, .slice Apb Lpb cpb, .int .i64 hpb, .slice Bpb Mpb dpb] := by rw [hw]; have h5 := (BK.new w1 #[.int .i64 gpa, .slice Apa Lpa cpa, .int .i64 hpa, .slice Bpa Mpa dpa, .int .i64 gpb, .slice Apb Lpb cpb, .int .i64 hpb, .slice Bpb Mpb dpb] 38); simpa only [World.size_alloc] using h5
  have szw2 : w2.heap.size = w1.heap.size + 1 := by rw [hw]; simp only [World.size_alloc]
  clear hw
  have HV : Hid (JB w2 w1.heap.size K (accQ minQ qs 0) (accQ maxQ qs 0)) := JB.mk bxo (HP.out.1.ext x2) (HP.out.2.ext x2)
  have xwv : Ext w w2 := (by with_reducible repeat' first | exact Ext.refl _ | assumption | apply Ext.alloc_r | apply Ext.drew_r | apply Ext.drewN_r | refine Ext.trans ?_ ‹Ext _ _›)
  have bxr0 := bxr
  clear HP bxo bxr
  obtain ⟨bo, hbo⟩ : ∃ b, b = w1.heap.size := ⟨_, rfl⟩
  rw [← hbo] at HV
  rw [← hbo]
  have hbo2 : w.heap.size ≤ bo := by omega
  have hbr2 : w.heap.size ≠ bo := by omega
  clear hbo
  go_loopg [4] qs.length (fun kk iv wr => ∃ (j : Nat) (z : Int), iv = .int .i64 z ∧ z = (j : Int) + 1 ∧ j < qs.length ∧ Hid (JB wr bo K (accQ minQ qs j) (accQ maxQ qs j)) ∧ Hid (qs.length - j ≤ kk) ∧ BK wr w.heap.size 38 #[.int .i64 0, .slice none 0 0, .int .i64 0, .slice none 0 0, .int .i64 0, .slice none 0 0, .int .i64 0, .slice none 0 0] ∧ Ext w wr)
  case atStart => exact ⟨0, 1, rfl, by omega, by omega, HV, Nat.sub_le _ _, bxr0, xwv⟩
  case round =>
    clear HV bxr0 xwv
    obtain ⟨j, z, rfl, hz, hj, HJB, HK, bxr, hxr⟩ := hrel
    by_cases hlt : j + 1 < qs.length
    · obtain ⟨m, hm⟩ : ∃ m, m = j + 1 := ⟨_, rfl⟩
      obtain rfl : z = (m : Int) := by omega
      clear hz
      have hm0 : (0 : Int) ≤ (m : Int) := by omega
      have hm1 : (m : Int) < (L0 : Int) := by have := HL.out; omega
      have hmq : m < qs.length := by omega
      obtain ⟨gla, Ala, cla, Lla, hla, Bla, dla, Mla, glb, Alb, clb, Llb, hlb, Blb, dlb, Mlb, bxo, lo, hi⟩ := HJB.out
      obtain ⟨gy, Ay, cy, Ly, hy, By, dy, My, k0_0, k0_1, k0_2, k0_3, hx⟩ := hc m hmq
      have HEL : Hid (accQ minQ qs m = minQ (accQ minQ qs j) qs[m] ∧ accQ maxQ qs m = maxQ (accQ maxQ qs j) qs[m]) := by
        subst hm
        rw [← getK hmq]
        exact ⟨rfl, rfl⟩
      have HKM : Hid (m < qs.length ∧ qs.length - m < gk) := ⟨hmq, by have h5 : qs.length - j ≤ gk := HK.out; omega⟩
      have szr := hxr.size
      clear HJB HK
      generalize hX : qs[m] = X at hx HEL
      generalize accQ minQ qs j = P1 at lo HEL
      generalize accQ maxQ qs j = P2 at hi HEL
      clear hX hm hj hlt
      obtain ⟨K1, hK1⟩ : ∃ k : Int, k = cmpQ X P1 := ⟨_, rfl⟩
      obtain ⟨K2, hK2⟩ : ∃ k : Int, k = cmpQ X P2 := ⟨_, rfl⟩
      have gK1 : K1 < 0 ↔ X < P1 := by rw [hK1]; exact cmpQ_lt _ _
      have gK2 : K2 > 0 ↔ P2 < X := by rw [hK2]; exact cmpQ_gt _ _
      have HC := Lib.hid (And.intro hK1.symm hK2.symm)
      clear hK1 hK2
      by_cases hA : K1 < 0
      · by_cases hB : K2 > 0
        · have HE2 : Hid (accQ minQ qs m = X ∧ accQ maxQ qs m = X) := by
            refine ⟨HEL.out.1.trans ?_, HEL.out.2.trans ?_⟩
            · rw [minQ_comm]; exact min_of_le (Rat.le_of_lt (gK1.1 hA))
            · exact max_of_le (Rat.le_of_lt (gK2.1 hB))
          clear HEL gK1 gK2
          go_upto_region 5 with fail
          have ko_0 := bxo.c 0 (.int .i64 gla) rfl
          have ko_1 := bxo.c 1 (.slice Ala Lla cla) rfl
          have ko_2 := bxo.c 2 (.int .i64 hla) rfl
          have ko_3 := bxo.c 3 (.slice Bla Mla dla) rfl
          have ko_4 := bxo.c 4 (.int .i64 glb) rfl
          have ko_5 := bxo.c 5 (.slice Alb Llb clb) rfl
          have ko_6 := bxo.c 6 (.int .i64 hlb) rfl
          have ko_7 := bxo.c 7 (.slice Blb Mlb dlb) rfl
          have kc_0 := (show Ext w wr from (by with_reducible repeat' first | exact Ext.refl _ | assumption | apply Ext.alloc_r | apply Ext.drew_r | apply Ext.drewN_r | refine Ext.trans ?_ ‹Ext _ _›)).cell k0_0
          have kc_1 := (show Ext w wr from (by with_reducible repeat' first | exact Ext.refl _ | assumption | apply Ext.alloc_r | apply Ext.drew_r | apply Ext.drewN_r | refine Ext.trans ?_ ‹Ext _ _›)).cell k0_1
          have kc_2 := (show Ext w wr from (by with_reducible repeat' first | exact Ext.refl _ | assumption | apply Ext.alloc_r | apply Ext.drew_r | apply Ext.drewN_r | refine Ext.trans ?_ ‹Ext _ _›)).cell k0_2
          have kc_3 := (show Ext w wr from (by with_reducible repeat' first | exact Ext.refl _ | assumption | apply Ext.alloc_r | apply Ext.drew_r | apply Ext.drewN_r | refine Ext.trans ?_ ‹Ext _ _›)).cell k0_3
          have HKS : Hid (∀ w', Ext wr w' → (w'.cell? ⟨bo, 0, none⟩ = some (.int .i64 gla) ∧ w'.cell? ⟨bo, 1, none⟩ = some (.slice Ala Lla cla) ∧ w'.cell? ⟨bo, 2, none⟩ = some (.int .i64 hla) ∧ w'.cell? ⟨bo, 3, none⟩ = some (.slice Bla Mla dla) ∧ w'.cell? ⟨bo, 4, none⟩ = some (.int .i64 glb) ∧ w'.cell? ⟨bo, 5, none⟩ = some (.slice Alb Llb clb) ∧ w'.cell? ⟨bo, 6, none⟩ = some (.int .i64 hlb) ∧ w'.cell? ⟨bo, 7, none⟩ = some (.slice Blb Mlb dlb) ∧ w'.cell? ⟨b, off + m * 4, none⟩ = some (.int .i64 gy) ∧ w'.cell? ⟨b, off + m * 4 + 1, none⟩ = some (.slice Ay Ly cy) ∧ w'.cell? ⟨b, off + m * 4 + 2, none⟩ = some (.int .i64 hy) ∧ w'.cell? ⟨b, off + m * 4 + 3, none⟩ = some (.slice By My dy))) := fun w' hk => ⟨hk.cell ko_0, hk.cell ko_1, hk.cell ko_2, hk.cell ko_3, hk.cell ko_4, hk.cell ko_5, hk.cell ko_6, hk.cell ko_7, hk.cell kc_0, hk.cell kc_1, hk.cell kc_2, hk.cell kc_3⟩
          go_region_held3 (fun w' => w'.cell? ⟨bo, 0, none⟩ = some (.int .i64 gla) ∧ w'.cell? ⟨bo, 1, none⟩ = some (.slice Ala Lla cla) ∧ w'.cell? ⟨bo, 2, none⟩ = some (.int .i64 hla) ∧ w'.cell? ⟨bo, 3, none⟩ = some (.slice Bla Mla dla) ∧ w'.cell? ⟨bo, 4, none⟩ = some (.int .i64 glb) ∧ w'.cell? ⟨bo, 5, none⟩ = some (.slice Alb Llb clb) ∧ w'.cell? ⟨bo, 6, none⟩ = some (.int .i64 hlb) ∧ w'.cell? ⟨bo, 7, none⟩ = some (.slice Blb Mlb dlb) ∧ w'.cell? ⟨b, off + m * 4, none⟩ = some (.int .i64 gy) ∧ w'.cell? ⟨b, off + m * 4 + 1, none⟩ = some (.slice Ay Ly cy) ∧ w'.cell? ⟨b, off + m * 4 + 2, none⟩ = some (.int .i64 hy) ∧ w'.cell? ⟨b, off + m * 4 + 3, none⟩ = some (.slice By My dy))
            ((with_reducible refine HKS.out _ ?_; (with_reducible repeat' first | exact Ext.refl _ | assumption | apply Ext.alloc_r | apply Ext.drew_r | apply Ext.drewN_r | refine Ext.trans ?_ ‹Ext _ _›)))
            (first
              | (go_at_call 42; refine (qcmp_k (hx.ext (by with_reducible repeat' first | exact Ext.refl _ | assumption | apply Ext.alloc_r | apply Ext.drew_r | apply Ext.drewN_r | refine Ext.trans ?_ ‹Ext _ _›)) (lo.ext (by with_reducible repeat' first | exact Ext.refl _ | assumption | apply Ext.alloc_r | apply Ext.drew_r | apply Ext.drewN_r | refine Ext.trans ?_ ‹Ext _ _›)) hK HC.out.1).mono ?_; rintro e w3 ⟨rfl, x3⟩))
          clear ko_0 ko_1 ko_2 ko_3 ko_4 ko_5 ko_6 ko_7 kc_0 kc_1 kc_2 kc_3
          clear HKS
          have xhw3 : Ext wr w3 := (by with_reducible repeat' first | exact Ext.refl _ | assumption | apply Ext.alloc_r | apply Ext.drew_r | apply Ext.drewN_r | refine Ext.trans ?_ ‹Ext _ _›)
          have szw3 : wr.heap.size ≤ w3.heap.size := xhw3.size
          replace bxr := bxr.ext xhw3
          replace bxo := bxo.ext xhw3
          have ko_0 := bxo.c 0 (.int .i64 gla) rfl
          have fo_0 := bxo.f 0
          have ko_1 := bxo.c 1 (.slice Ala Lla cla) rfl
          have fo_1 := bxo.f 1
          have ko_2 := bxo.c 2 (.int .i64 hla) rfl
          have fo_2 := bxo.f 2
          have ko_3 := bxo.c 3 (.slice Bla Mla dla) rfl
          have fo_3 := bxo.f 3
          have ko_4 := bxo.c 4 (.int .i64 glb) rfl
          have fo_4 := bxo.f 4
          have ko_5 := bxo.c 5 (.slice Alb Llb clb) rfl
          have fo_5 := bxo.f 5
          have ko_6 := bxo.c 6 (.int .i64 hlb) rfl
          have fo_6 := bxo.f 6
          have ko_7 := bxo.c 7 (.slice Blb Mlb dlb) rfl
          have fo_7 := bxo.f 7
          have kc_0 := (show Ext w w3 from (by with_reducible repeat' first | exact Ext.refl _ | assumption | apply Ext.alloc_r | apply Ext.drew_r | apply Ext.drewN_r | refine Ext.trans ?_ ‹Ext _ _›)).cell k0_0
          have kc_1 := (show Ext w w3 from (by with_reducible repeat' first | exact Ext.refl _ | assumption | apply Ext.alloc_r | apply Ext.drew_r | apply Ext.drewN_r | refine Ext.trans ?_ ‹Ext _ _›)).cell k0_1
          have kc_2 := (show Ext w w3 from (by with_reducible repeat' first | exact Ext.refl _ | assumption | apply Ext.alloc_r | apply Ext.drew_r | apply Ext.drewN_r | refine Ext.trans ?_ ‹Ext _ _›)).cell k0_2
          have kc_3 := (show Ext w w3 from (by with_reducible repeat' first | exact Ext.refl _ | assumption | apply Ext.alloc_r | apply Ext.drew_r | apply Ext.drewN_r | refine Ext.trans ?_ ‹Ext _ _›)).cell k0_3
          go_wp2_with fail
          clear ko_0 fo_0 ko_1 fo_1 ko_2 fo_2 ko_3 fo_3 ko_4 fo_4 ko_5 fo_5 ko_6 fo_6 ko_7 fo_7 kc_0 kc_1 kc_2 kc_3
          have hxx := hx.ext (show Ext w w3 from (by with_reducible repeat' first | exact Ext.refl _ | assumption | apply Ext.alloc_r | apply Ext.drew_r | apply Ext.drewN_r | refine Ext.trans ?_ ‹Ext _ _›))
          obtain ⟨w4, hw⟩ : ∃ z : World, z = ((((w3.setCell ⟨bo, 0, none⟩ (.int .i64 gy)).setCell ⟨bo, 1, none⟩ (.slice Ay Ly cy)).setCell ⟨bo, 2, none⟩ (.int .i64 hy)).setCell ⟨bo, 3, none⟩ (.slice By My dy)) := ⟨_, rfl⟩
          rw [← hw]
          have kw4 : Kept w3 w4 := by rw [hw]; exact (Kept.set_ (Kept.set_ (Kept.set_ (Kept.set_ (Kept.refl _) bxo.isBox plain_J) (IsBox.set_ bxo.isBox) plain_J) (IsBox.set_ (IsBox.set_ bxo.isBox)) plain_J) (IsBox.set_ (IsBox.set_ (IsBox.set_ bxo.isBox))) plain_J)
          have nbr : BK w4 (w.heap.size) 38 #[.int .i64 0, .slice none 0 0, .int .i64 0, .slice none 0 0, .int .i64 0, .slice none 0 0, .int .i64 0, .slice none 0 0] := by rw [hw]; exact (BK.far (BK.far (BK.far (BK.far bxr (show w.heap.size ≠ bo by omega) 0 _) (show w.heap.size ≠ bo by omega) 1 _) (show w.heap.size ≠ bo by omega) 2 _) (show w.heap.size ≠ bo by omega) 3 _)
          have nbo : BK w4 (bo) 38 #[.int .i64 gy, .slice Ay Ly cy, .int .i64 hy, .slice By My dy, .int .i64 glb, .slice Alb Llb clb, .int .i64 hlb, .slice Blb Mlb dlb] := by rw [hw]; exact (BK.set (i := 3) (u := .slice By My dy) (vs' := #[.int .i64 gy, .slice Ay Ly cy, .int .i64 hy, .slice By My dy, .int .i64 glb, .slice Alb Llb clb, .int .i64 hlb, .slice Blb Mlb dlb]) (BK.set (i := 2) (u := .int .i64 hy) (vs' := #[.int .i64 gy, .slice Ay Ly cy, .int .i64 hy, .slice Bla Mla dla, .int .i64 glb, .slice Alb Llb clb, .int .i64 hlb, .slice Blb Mlb dlb]) (BK.set (i := 1) (u := .slice Ay Ly cy) (vs' := #[.int .i64 gy, .slice Ay Ly cy, .int .i64 hla, .slice Bla Mla dla, .int .i64 glb, .slice Alb Llb clb, .int .i64 hlb, .slice Blb Mlb dlb]) (BK.set (i := 0) (u := .int .i64 gy) (vs' := #[.int .i64 gy, .slice Ala Lla cla, .int .i64 hla, .slice Bla Mla dla, .int .i64 glb, .slice Alb Llb clb, .int .i64 hlb, .slice Blb Mlb dlb]) bxo rfl) rfl) rfl) rfl)
          have x4 : Ext w w4 := by rw [hw]; have hxp : Ext w w3 := (by with_reducible repeat' first | exact Ext.refl _ | assumption | apply Ext.alloc_r | apply Ext.drew_r | apply Ext.drewN_r | refine Ext.trans ?_ ‹Ext _ _›); exact (Ext.set_ (Ext.set_ (Ext.set_ (Ext.set_ hxp (show _ ≤ bo by omega)) (show _ ≤ bo by omega)) (show _ ≤ bo by omega)) (show _ ≤ bo by omega))
          clear bxr
          clear bxo
          have bxr := nbr
          clear nbr
          have bxo := nbo
          clear nbo
          have szw4 : w4.heap.size = w3.heap.size := by rw [hw]; simp
          replace hxx := (hxx.ext (by with_reducible repeat' first | exact Ext.refl _ | assumption | apply Ext.alloc_r | apply Ext.drew_r | apply Ext.drewN_r | refine Ext.trans ?_ ‹Ext _ _›)).kept kw4
          replace hi := (hi.ext (by with_reducible repeat' first | exact Ext.refl _ | assumption | apply Ext.alloc_r | apply Ext.drew_r | apply Ext.drewN_r | refine Ext.trans ?_ ‹Ext _ _›)).kept kw4
          clear hw kw4
          have lo := hxx
          clear hxx
          have ko_0 := bxo.c 0 (.int .i64 gy) rfl
          have ko_1 := bxo.c 1 (.slice Ay Ly cy) rfl
          have ko_2 := bxo.c 2 (.int .i64 hy) rfl
          have ko_3 := bxo.c 3 (.slice By My dy) rfl
          have ko_4 := bxo.c 4 (.int .i64 glb) rfl
          have ko_5 := bxo.c 5 (.slice Alb Llb clb) rfl
          have ko_6 := bxo.c 6 (.int .i64 hlb) rfl
          have ko_7 := bxo.c 7 (.slice Blb Mlb dlb) rfl
          have kc_0 := (show Ext w w4 from (by with_reducible repeat' first | exact Ext.refl _ | assumption | apply Ext.alloc_r | apply Ext.drew_r | apply Ext.drewN_r | refine Ext.trans ?_ ‹Ext _ _›)).cell k0_0
          have kc_1 := (show Ext w w4 from (by with_reducible repeat' first | exact Ext.refl _ | assumption | apply Ext.alloc_r | apply Ext.drew_r | apply Ext.drewN_r | refine Ext.trans ?_ ‹Ext _ _›)).cell k0_1
          have kc_2 := (show Ext w w4 from (by with_reducible repeat' first | exact Ext.refl _ | assumption | apply Ext.alloc_r | apply Ext.drew_r | apply Ext.drewN_r | refine Ext.trans ?_ ‹Ext _ _›)).cell k0_2
          have kc_3 := (show Ext w w4 from (by with_reducible repeat' first | exact Ext.refl _ | assumption | apply Ext.alloc_r | apply Ext.drew_r | apply Ext.drewN_r | refine Ext.trans ?_ ‹Ext _ _›)).cell k0_3
          have HKS : Hid (∀ w', Ext w4 w' → (w'.cell? ⟨bo, 0, none⟩ = some (.int .i64 gy) ∧ w'.cell? ⟨bo, 1, none⟩ = some (.slice Ay Ly cy) ∧ w'.cell? ⟨bo, 2, none⟩ = some (.int .i64 hy) ∧ w'.cell? ⟨bo, 3, none⟩ = some (.slice By My dy) ∧ w'.cell? ⟨bo, 4, none⟩ = some (.int .i64 glb) ∧ w'.cell? ⟨bo, 5, none⟩ = some (.slice Alb Llb clb) ∧ w'.cell? ⟨bo, 6, none⟩ = some (.int .i64 hlb) ∧ w'.cell? ⟨bo, 7, none⟩ = some (.slice Blb Mlb dlb) ∧ w'.cell? ⟨b, off + m * 4, none⟩ = some (.int .i64 gy) ∧ w'.cell? ⟨b, off + m * 4 + 1, none⟩ = some (.slice Ay Ly cy) ∧ w'.cell? ⟨b, off + m * 4 + 2, none⟩ = some (.int .i64 hy) ∧ w'.cell? ⟨b, off + m * 4 + 3, none⟩ = some (.slice By My dy))) := fun w' hk => ⟨hk.cell ko_0, hk.cell ko_1, hk.cell ko_2, hk.cell ko_3, hk.cell ko_4, hk.cell ko_5, hk.cell ko_6, hk.cell ko_7, hk.cell kc_0, hk.cell kc_1, hk.cell kc_2, hk.cell kc_3⟩
          go_region_held3 (fun w' => w'.cell? ⟨bo, 0, none⟩ = some (.int .i64 gy) ∧ w'.cell? ⟨bo, 1, none⟩ = some (.slice Ay Ly cy) ∧ w'.cell? ⟨bo, 2, none⟩ = some (.int .i64 hy) ∧ w'.cell? ⟨bo, 3, none⟩ = some (.slice By My dy) ∧ w'.cell? ⟨bo, 4, none⟩ = some (.int .i64 glb) ∧ w'.cell? ⟨bo, 5, none⟩ = some (.slice Alb Llb clb) ∧ w'.cell? ⟨bo, 6, none⟩ = some (.int .i64 hlb) ∧ w'.cell? ⟨bo, 7, none⟩ = some (.slice Blb Mlb dlb) ∧ w'.cell? ⟨b, off + m * 4, none⟩ = some (.int .i64 gy) ∧ w'.cell? ⟨b, off + m * 4 + 1, none⟩ = some (.slice Ay Ly cy) ∧ w'.cell? ⟨b, off + m * 4 + 2, none⟩ = some (.int .i64 hy) ∧ w'.cell? ⟨b, off + m * 4 + 3, none⟩ = some (.slice By My dy))
            ((with_reducible refine HKS.out _ ?_; (with_reducible repeat' first | exact Ext.refl _ | assumption | apply Ext.alloc_r | apply Ext.drew_r | apply Ext.drewN_r | refine Ext.trans ?_ ‹Ext _ _›)))
            (first
              | (go_at_call 42; refine (qcmp_k (hx.ext (by with_reducible repeat' first | exact Ext.refl _ | assumption | apply Ext.alloc_r | apply Ext.drew_r | apply Ext.drewN_r | refine Ext.trans ?_ ‹Ext _ _›)) (hi.ext (by with_reducible repeat' first | exact Ext.refl _ | assumption | apply Ext.alloc_r | apply Ext.drew_r | apply Ext.drewN_r | refine Ext.trans ?_ ‹Ext _ _›)) hK HC.out.2).mono ?_; rintro e w5 ⟨rfl, x5⟩))
          clear ko_0 ko_1 ko_2 ko_3 ko_4 ko_5 ko_6 ko_7 kc_0 kc_1 kc_2 kc_3
          clear HKS
          have xhw5 : Ext w4 w5 := (by with_reducible repeat' first | exact Ext.refl _ | assumption | apply Ext.alloc_r | apply Ext.drew_r | apply Ext.drewN_r | refine Ext.trans ?_ ‹Ext _ _›)
          have szw5 : w4.heap.size ≤ w5.heap.size := xhw5.size
          replace bxr := bxr.ext xhw5
          replace bxo := bxo.ext xhw5
          have ko_0 := bxo.c 0 (.int .i64 gy) rfl
          have fo_0 := bxo.f 0
          have ko_1 := bxo.c 1 (.slice Ay Ly cy) rfl
          have fo_1 := bxo.f 1
          have ko_2 := bxo.c 2 (.int .i64 hy) rfl
          have fo_2 := bxo.f 2
          have ko_3 := bxo.c 3 (.slice By My dy) rfl
          have fo_3 := bxo.f 3
          have ko_4 := bxo.c 4 (.int .i64 glb) rfl
          have fo_4 := bxo.f 4
          have ko_5 := bxo.c 5 (.slice Alb Llb clb) rfl
          have fo_5 := bxo.f 5
          have ko_6 := bxo.c 6 (.int .i64 hlb) rfl
          have fo_6 := bxo.f 6
          have ko_7 := bxo.c 7 (.slice Blb Mlb dlb) rfl
          have fo_7 := bxo.f 7
          have kc_0 := (show Ext w w5 from (by with_reducible repeat' first | exact Ext.refl _ | assumption | apply Ext.alloc_r | apply Ext.drew_r | apply Ext.drewN_r | refine Ext.trans ?_ ‹Ext _ _›)).cell k0_0
          have kc_1 := (show Ext w w5 from (by with_reducible repeat' first | exact Ext.refl _ | assumption | apply Ext.alloc_r | apply Ext.drew_r | apply Ext.drewN_r | refine Ext.trans ?_ ‹Ext _ _›)).cell k0_1
          have kc_2 := (show Ext w w5 from (by with_reducible repeat' first | exact Ext.refl _ | assumption | apply Ext.alloc_r | apply Ext.drew_r | apply Ext.drewN_r | refine Ext.trans ?_ ‹Ext _ _›)).cell k0_2
          have kc_3 := (show Ext w w5 from (by with_reducible repeat' first | exact Ext.refl _ | assumption | apply Ext.alloc_r | apply Ext.drew_r | apply Ext.drewN_r | refine Ext.trans ?_ ‹Ext _ _›)).cell k0_3
          go_wp2_with fail
          clear ko_0 fo_0 ko_1 fo_1 ko_2 fo_2 ko_3 fo_3 ko_4 fo_4 ko_5 fo_5 ko_6 fo_6 ko_7 fo_7 kc_0 kc_1 kc_2 kc_3
          have hxx := hx.ext (show Ext w w5 from (by with_reducible repeat' first | exact Ext.refl _ | assumption | apply Ext.alloc_r | apply Ext.drew_r | apply Ext.drewN_r | refine Ext.trans ?_ ‹Ext _ _›))
          obtain ⟨w6, hw⟩ : ∃ z : World, z = ((((w5.setCell ⟨bo, 4, none⟩ (.int .i64 gy)).setCell ⟨bo, 5, none⟩ (.slice Ay Ly cy)).setCell ⟨bo, 6, none⟩ (.int .i64 hy)).setCell ⟨bo, 7, none⟩ (.slice By My dy)) := ⟨_, rfl⟩
          rw [← hw]
          have kw6 : Kept w5 w6 := by rw [hw]; exact (Kept.set_ (Kept.set_ (Kept.set_ (Kept.set_ (Kept.refl _) bxo.isBox plain_J) (IsBox.set_ bxo.isBox) plain_J) (IsBox.set_ (IsBox.set_ bxo.isBox)) plain_J) (IsBox.set_ (IsBox.set_ (IsBox.set_ bxo.isBox))) plain_J)
          have nbr : BK w6 (w.heap.size) 38 #[.int .i64 0, .slice none 0 0, .int .i64 0, .slice none 0 0, .int .i64 0, .slice none 0 0, .int .i64 0, .slice none 0 0] := by rw [hw]; exact (BK.far (BK.far (BK.far (BK.far bxr (show w.heap.size ≠ bo by omega) 4 _) (show w.heap.size ≠ bo by omega) 5 _) (show w.heap.size ≠ bo by omega) 6 _) (show w.heap.size ≠ bo by omega) 7 _)
          have nbo : BK w6 (bo) 38 #[.int .i64 gy, .slice Ay Ly cy, .int .i64 hy, .slice By My dy, .int .i64 gy, .slice Ay Ly cy, .int .i64 hy, .slice By My dy] := by rw [hw]; exact (BK.set (i := 7) (u := .slice By My dy) (vs' := #[.int .i64 gy, .slice Ay Ly cy, .int .i64 hy, .slice By My dy, .int .i64 gy, .slice Ay Ly cy, .int .i64 hy, .slice By My dy]) (BK.set (i := 6) (u := .int .i64 hy) (vs' := #[.int .i64 gy, .slice Ay Ly cy, .int .i64 hy, .slice By My dy, .int .i64 gy, .slice Ay Ly cy, .int .i64 hy, .slice Blb Mlb dlb]) (BK.set (i := 5) (u := .slice Ay Ly cy) (vs' := #[.int .i64 gy, .slice Ay Ly cy, .int .i64 hy, .slice By My dy, .int .i64 gy, .slice Ay Ly cy, .int .i64 hlb, .slice Blb Mlb dlb]) (BK.set (i := 4) (u := .int .i64 gy) (vs' := #[.int .i64 gy, .slice Ay Ly cy, .int .i64 hy, .slice By My dy, .int .i64 gy, .slice Alb Llb clb, .int .i64 hlb, .slice Blb Mlb dlb]) bxo rfl) rfl) rfl) rfl)
          have x6 : Ext w w6 := by rw [hw]; have hxp : Ext w w5 := (by with_reducible repeat' first | exact Ext.refl _ | assumption | apply Ext.alloc_r | apply Ext.drew_r | apply Ext.drewN_r | refine Ext.trans ?_ ‹Ext _ _›); exact (Ext.set_ (Ext.set_ (Ext.set_ (Ext.set_ hxp (show _ ≤ bo by omega)) (show _ ≤ bo by omega)) (show _ ≤ bo by omega)) (show _ ≤ bo by omega))
          clear bxr
          clear bxo
          have bxr := nbr
          clear nbr
          have bxo := nbo
          clear nbo
          have szw6 : w6.heap.size = w5.heap.size := by rw [hw]; simp
          replace hxx := (hxx.ext (by with_reducible repeat' first | exact Ext.refl _ | assumption | apply Ext.alloc_r | apply Ext.drew_r | apply Ext.drewN_r | refine Ext.trans ?_ ‹Ext _ _›)).kept kw6
          replace lo := (lo.ext (by with_reducible repeat' first | exact Ext.refl _ | assumption | apply Ext.alloc_r | apply Ext.drew_r | apply Ext.drewN_r | refine Ext.trans ?_ ‹Ext _ _›)).kept kw6
          clear hw kw6
          have hi := hxx
          clear hxx
          have HJ2 : Hid (JB w6 bo K (accQ minQ qs m) (accQ maxQ qs m)) := by show JB _ _ _ _ _; rw [HE2.out.1, HE2.out.2]; exact JB.mk bxo (lo.ext (by with_reducible repeat' first | exact Ext.refl _ | assumption | apply Ext.alloc_r | apply Ext.drew_r | apply Ext.drewN_r | refine Ext.trans ?_ ‹Ext _ _›)) (hi.ext (by with_reducible repeat' first | exact Ext.refl _ | assumption | apply Ext.alloc_r | apply Ext.drew_r | apply Ext.drewN_r | refine Ext.trans ?_ ‹Ext _ _›))
          have xw9 : Ext w w6 := (by with_reducible repeat' first | exact Ext.refl _ | assumption | apply Ext.alloc_r | apply Ext.drew_r | apply Ext.drewN_r | refine Ext.trans ?_ ‹Ext _ _›)
          clear bxo lo hi
          go_roundg (qs.length - m)
          case measure => exact HKM.out.2
          case rel => exact ⟨m, (m : Int) + 1, by go_num, rfl, HKM.out.1, HJ2, Nat.le_refl _, bxr, xw9⟩
        · have HE2 : Hid (accQ minQ qs m = X ∧ accQ maxQ qs m = P2) := by
            refine ⟨HEL.out.1.trans ?_, HEL.out.2.trans ?_⟩
            · rw [minQ_comm]; exact min_of_le (Rat.le_of_lt (gK1.1 hA))
            · rw [maxQ_comm]; exact max_of_le (Rat.not_lt.1 (fun h => hB (gK2.2 h)))
          clear HEL gK1 gK2
          go_upto_region 5 with fail
          have ko_0 := bxo.c 0 (.int .i64 gla) rfl
          have ko_1 := bxo.c 1 (.slice Ala Lla cla) rfl
          have ko_2 := bxo.c 2 (.int .i64 hla) rfl
          have ko_3 := bxo.c 3 (.slice Bla Mla dla) rfl
          have ko_4 := bxo.c 4 (.int .i64 glb) rfl
          have ko_5 := bxo.c 5 (.slice Alb Llb clb) rfl
          have ko_6 := bxo.c 6 (.int .i64 hlb) rfl
          have ko_7 := bxo.c 7 (.slice Blb Mlb dlb) rfl
          have kc_0 := (show Ext w wr from (by with_reducible repeat' first | exact Ext.refl _ | assumption | apply Ext.alloc_r | apply Ext.drew_r | apply Ext.drewN_r | refine Ext.trans ?_ ‹Ext _ _›)).cell k0_0
          have kc_1 := (show Ext w wr from (by with_reducible repeat' first | exact Ext.refl _ | assumption | apply Ext.alloc_r | apply Ext.drew_r | apply Ext.drewN_r | refine Ext.trans ?_ ‹Ext _ _›)).cell k0_1
          have kc_2 := (show Ext w wr from (by with_reducible repeat' first | exact Ext.refl _ | assumption | apply Ext.alloc_r | apply Ext.drew_r | apply Ext.drewN_r | refine Ext.trans ?_ ‹Ext _ _›)).cell k0_2
          have kc_3 := (show Ext w wr from (by with_reducible repeat' first | exact Ext.refl _ | assumption | apply Ext.alloc_r | apply Ext.drew_r | apply Ext.drewN_r | refine Ext.trans ?_ ‹Ext _ _›)).cell k0_3
          have HKS : Hid (∀ w', Ext wr w' → (w'.cell? ⟨bo, 0, none⟩ = some (.int .i64 gla) ∧ w'.cell? ⟨bo, 1, none⟩ = some (.slice Ala Lla cla) ∧ w'.cell? ⟨bo, 2, none⟩ = some (.int .i64 hla) ∧ w'.cell? ⟨bo, 3, none⟩ = some (.slice Bla Mla dla) ∧ w'.cell? ⟨bo, 4, none⟩ = some (.int .i64 glb) ∧ w'.cell? ⟨bo, 5, none⟩ = some (.slice Alb Llb clb) ∧ w'.cell? ⟨bo, 6, none⟩ = some (.int .i64 hlb) ∧ w'.cell? ⟨bo, 7, none⟩ = some (.slice Blb Mlb dlb) ∧ w'.cell? ⟨b, off + m * 4, none⟩ = some (.int .i64 gy) ∧ w'.cell? ⟨b, off + m * 4 + 1, none⟩ = some (.slice Ay Ly cy) ∧ w'.cell? ⟨b, off + m * 4 + 2, none⟩ = some (.int .i64 hy) ∧ w'.cell? ⟨b, off + m * 4 + 3, none⟩ = some (.slice By My dy))) := fun w' hk => ⟨hk.cell ko_0, hk.cell ko_1, hk.cell ko_2, hk.cell ko_3, hk.cell ko_4, hk.cell ko_5, hk.cell ko_6, hk.cell ko_7, hk.cell kc_0, hk.cell kc_1, hk.cell kc_2, hk.cell kc_3⟩
          go_region_held3 (fun w' => w'.cell? ⟨bo, 0, none⟩ = some (.int .i64 gla) ∧ w'.cell? ⟨bo, 1, none⟩ = some (.slice Ala Lla cla) ∧ w'.cell? ⟨bo, 2, none⟩ = some (.int .i64 hla) ∧ w'.cell? ⟨bo, 3, none⟩ = some (.slice Bla Mla dla) ∧ w'.cell? ⟨bo, 4, none⟩ = some (.int .i64 glb) ∧ w'.cell? ⟨bo, 5, none⟩ = some (.slice Alb Llb clb) ∧ w'.cell? ⟨bo, 6, none⟩ = some (.int .i64 hlb) ∧ w'.cell? ⟨bo, 7, none⟩ = some (.slice Blb Mlb dlb) ∧ w'.cell? ⟨b, off + m * 4, none⟩ = some (.int .i64 gy) ∧ w'.cell? ⟨b, off + m * 4 + 1, none⟩ = some (.slice Ay Ly cy) ∧ w'.cell? ⟨b, off + m * 4 + 2, none⟩ = some (.int .i64 hy) ∧ w'.cell? ⟨b, off + m * 4 + 3, none⟩ = some (.slice By My dy))
            ((with_reducible refine HKS.out _ ?_; (with_reducible repeat' first | exact Ext.refl _ | assumption | apply Ext.alloc_r | apply Ext.drew_r | apply Ext.drewN_r | refine Ext.trans ?_ ‹Ext _ _›)))
            (first
              | (go_at_call 42; refine (qcmp_k (hx.ext (by with_reducible repeat' first | exact Ext.refl _ | assumption | apply Ext.alloc_r | apply Ext.drew_r | apply Ext.drewN_r | refine Ext.trans ?_ ‹Ext _ _›)) (lo.ext (by with_reducible repeat' first | exact Ext.refl _ | assumption | apply Ext.alloc_r | apply Ext.drew_r | apply Ext.drewN_r | refine Ext.trans ?_ ‹Ext _ _›)) hK HC.out.1).mono ?_; rintro e w3 ⟨rfl, x3⟩))
          clear ko_0 ko_1 ko_2 ko_3 ko_4 ko_5 ko_6 ko_7 kc_0 kc_1 kc_2 kc_3
          clear HKS
          have xhw3 : Ext wr w3 := (by with_reducible repeat' first | exact Ext.refl _ | assumption | apply Ext.alloc_r | apply Ext.drew_r | apply Ext.drewN_r | refine Ext.trans ?_ ‹Ext _ _›)
          have szw3 : wr.heap.size ≤ w3.heap.size := xhw3.size
          replace bxr := bxr.ext xhw3
          replace bxo := bxo.ext xhw3
          have ko_0 := bxo.c 0 (.int .i64 gla) rfl
          have fo_0 := bxo.f 0
          have ko_1 := bxo.c 1 (.slice Ala Lla cla) rfl
          have fo_1 := bxo.f 1
          have ko_2 := bxo.c 2 (.int .i64 hla) rfl
          have fo_2 := bxo.f 2
          have ko_3 := bxo.c 3 (.slice Bla Mla dla) rfl
          have fo_3 := bxo.f 3
          have ko_4 := bxo.c 4 (.int .i64 glb) rfl
          have fo_4 := bxo.f 4
          have ko_5 := bxo.c 5 (.slice Alb Llb clb) rfl
          have fo_5 := bxo.f 5
          have ko_6 := bxo.c 6 (.int .i64 hlb) rfl
          have fo_6 := bxo.f 6
          have ko_7 := bxo.c 7 (.slice Blb Mlb dlb) rfl
          have fo_7 := bxo.f 7
          have kc_0 := (show Ext w w3 from (by with_reducible repeat' first | exact Ext.refl _ | assumption | apply Ext.alloc_r | apply Ext.drew_r | apply Ext.drewN_r | refine Ext.trans ?_ ‹Ext _ _›)).cell k0_0
          have kc_1 := (show Ext w w3 from (by with_reducible repeat' first | exact Ext.refl _ | assumption | apply Ext.alloc_r | apply Ext.drew_r | apply Ext.drewN_r | refine Ext.trans ?_ ‹Ext _ _›)).cell k0_1
          have kc_2 := (show Ext w w3 from (by with_reducible repeat' first | exact Ext.refl _ | assumption | apply Ext.alloc_r | apply Ext.drew_r | apply Ext.drewN_r | refine Ext.trans ?_ ‹Ext _ _›)).cell k0_2
          have kc_3 := (show Ext w w3 from (by with_reducible repeat' first | exact Ext.refl _ | assumption | apply Ext.alloc_r | apply Ext.drew_r | apply Ext.drewN_r | refine Ext.trans ?_ ‹Ext _ _›)).cell k0_3
          go_wp2_with fail
          clear ko_0 fo_0 ko_1 fo_1 ko_2 fo_2 ko_3 fo_3 ko_4 fo_4 ko_5 fo_5 ko_6 fo_6 ko_7 fo_7 kc_0 kc_1 kc_2 kc_3
          have hxx := hx.ext (show Ext w w3 from (by with_reducible repeat' first | exact Ext.refl _ | assumption | apply Ext.alloc_r | apply Ext.drew_r | apply Ext.drewN_r | refine Ext.trans ?_ ‹Ext _ _›))
          obtain ⟨w4, hw⟩ : ∃ z : World, z = ((((w3.setCell ⟨bo, 0, none⟩ (.int .i64 gy)).setCell ⟨bo, 1, none⟩ (.slice Ay Ly cy)).setCell ⟨bo, 2, none⟩ (.int .i64 hy)).setCell ⟨bo, 3, none⟩ (.slice By My dy)) := ⟨_, rfl⟩
          rw [← hw]
          have kw4 : Kept w3 w4 := by rw [hw]; exact (Kept.set_ (Kept.set_ (Kept.set_ (Kept.set_ (Kept.refl _) bxo.isBox plain_J) (IsBox.set_ bxo.isBox) plain_J) (IsBox.set_ (IsBox.set_ bxo.isBox)) plain_J) (IsBox.set_ (IsBox.set_ (IsBox.set_ bxo.isBox))) plain_J)
          have nbr : BK w4 (w.heap.size) 38 #[.int .i64 0, .slice none 0 0, .int .i64 0, .slice none 0 0, .int .i64 0, .slice none 0 0, .int .i64 0, .slice none 0 0] := by rw [hw]; exact (BK.far (BK.far (BK.far (BK.far bxr (show w.heap.size ≠ bo by omega) 0 _) (show w.heap.size ≠ bo by omega) 1 _) (show w.heap.size ≠ bo by omega) 2 _) (show w.heap.size ≠ bo by omega) 3 _)
          have nbo : BK w4 (bo) 38 #[.int .i64 gy, .slice Ay Ly cy, .int .i64 hy, .slice By My dy, .int .i64 glb, .slice Alb Llb clb, .int .i64 hlb, .slice Blb Mlb dlb] := by rw [hw]; exact (BK.set (i := 3) (u := .slice By My dy) (vs' := #[.int .i64 gy, .slice Ay Ly cy, .int .i64 hy, .slice By My dy, .int .i64 glb, .slice Alb Llb clb, .int .i64 hlb, .slice Blb Mlb dlb]) (BK.set (i := 2) (u := .int .i64 hy) (vs' := #[.int .i64 gy, .slice Ay Ly cy, .int .i64 hy, .slice Bla Mla dla, .int .i64 glb, .slice Alb Llb clb, .int .i64 hlb, .slice Blb Mlb dlb]) (BK.set (i := 1) (u := .slice Ay Ly cy) (vs' := #[.int .i64 gy, .slice Ay Ly cy, .int .i64 hla, .slice Bla Mla dla, .int .i64 glb, .slice Alb Llb clb, .int .i64 hlb, .slice Blb Mlb dlb]) (BK.set (i := 0) (u := .int .i64 gy) (vs' := #[.int .i64 gy, .slice Ala Lla cla, .int .i64 hla, .slice Bla Mla dla, .int .i64 glb, .slice Alb Llb clb, .int .i64 hlb, .slice Blb Mlb dlb]) bxo rfl) rfl) rfl) rfl)
          have x4 : Ext w w4 := by rw [hw]; have hxp : Ext w w3 := (by with_reducible repeat' first | exact Ext.refl _ | assumption | apply Ext.alloc_r | apply Ext.drew_r | apply Ext.drewN_r | refine Ext.trans ?_ ‹Ext _ _›); exact (Ext.set_ (Ext.set_ (Ext.set_ (Ext.set_ hxp (show _ ≤ bo by omega)) (show _ ≤ bo by omega)) (show _ ≤ bo by omega)) (show _ ≤ bo by omega))
          clear bxr
          clear bxo
          have bxr := nbr
          clear nbr
          have bxo := nbo
          clear nbo
          have szw4 : w4.heap.size = w3.heap.size := by rw [hw]; simp
          replace hxx := (hxx.ext (by with_reducible repeat' first | exact Ext.refl _ | assumption | apply Ext.alloc_r | apply Ext.drew_r | apply Ext.drewN_r | refine Ext.trans ?_ ‹Ext _ _›)).kept kw4
          replace hi := (hi.ext (by with_reducible repeat' first | exact Ext.refl _ | assumption | apply Ext.alloc_r | apply Ext.drew_r | apply Ext.drewN_r | refine Ext.trans ?_ ‹Ext _ _›)).kept kw4
          clear hw kw4
          have lo := hxx
          clear hxx
          have ko_0 := bxo.c 0 (.int .i64 gy) rfl
          have ko_1 := bxo.c 1 (.slice Ay Ly cy) rfl
          have ko_2 := bxo.c 2 (.int .i64 hy) rfl
          have ko_3 := bxo.c 3 (.slice By My dy) rfl
          have ko_4 := bxo.c 4 (.int .i64 glb) rfl
          have ko_5 := bxo.c 5 (.slice Alb Llb clb) rfl
          have ko_6 := bxo.c 6 (.int .i64 hlb) rfl
          have ko_7 := bxo.c 7 (.slice Blb Mlb dlb) rfl
          have kc_0 := (show Ext w w4 from (by with_reducible repeat' first | exact Ext.refl _ | assumption | apply Ext.alloc_r | apply Ext.drew_r | apply Ext.drewN_r | refine Ext.trans ?_ ‹Ext _ _›)).cell k0_0
          have kc_1 := (show Ext w w4 from (by with_reducible repeat' first | exact Ext.refl _ | assumption | apply Ext.alloc_r | apply Ext.drew_r | apply Ext.drewN_r | refine Ext.trans ?_ ‹Ext _ _›)).cell k0_1
          have kc_2 := (show Ext w w4 from (by with_reducible repeat' first | exact Ext.refl _ | assumption | apply Ext.alloc_r | apply Ext.drew_r | apply Ext.drewN_r | refine Ext.trans ?_ ‹Ext _ _›)).cell k0_2
          have kc_3 := (show Ext w w4 from (by with_reducible repeat' first | exact Ext.refl _ | assumption | apply Ext.alloc_r | apply Ext.drew_r | apply Ext.drewN_r | refine Ext.trans ?_ ‹Ext _ _›)).cell k0_3
          have HKS : Hid (∀ w', Ext w4 w' → (w'.cell? ⟨bo, 0, none⟩ = some (.int .i64 gy) ∧ w'.cell? ⟨bo, 1, none⟩ = some (.slice Ay Ly cy) ∧ w'.cell? ⟨bo, 2, none⟩ = some (.int .i64 hy) ∧ w'.cell? ⟨bo, 3, none⟩ = some (.slice By My dy) ∧ w'.cell? ⟨bo, 4, none⟩ = some (.int .i64 glb) ∧ w'.cell? ⟨bo, 5, none⟩ = some (.slice Alb Llb clb) ∧ w'.cell? ⟨bo, 6, none⟩ = some (.int .i64 hlb) ∧ w'.cell? ⟨bo, 7, none⟩ = some (.slice Blb Mlb dlb) ∧ w'.cell? ⟨b, off + m * 4, none⟩ = some (.int .i64 gy) ∧ w'.cell? ⟨b, off + m * 4 + 1, none⟩ = some (.slice Ay Ly cy) ∧ w'.cell? ⟨b, off + m * 4 + 2, none⟩ = some (.int .i64 hy) ∧ w'.cell? ⟨b, off + m * 4 + 3, none⟩ = some (.slice By My dy))) := fun w' hk => ⟨hk.cell ko_0, hk.cell ko_1, hk.cell ko_2, hk.cell ko_3, hk.cell ko_4, hk.cell ko_5, hk.cell ko_6, hk.cell ko_7, hk.cell kc_0, hk.cell kc_1, hk.cell kc_2, hk.cell kc_3⟩
          go_region_held3 (fun w' => w'.cell? ⟨bo, 0, none⟩ = some (.int .i64 gy) ∧ w'.cell? ⟨bo, 1, none⟩ = some (.slice Ay Ly cy) ∧ w'.cell? ⟨bo, 2, none⟩ = some (.int .i64 hy) ∧ w'.cell? ⟨bo, 3, none⟩ = some (.slice By My dy) ∧ w'.cell? ⟨bo, 4, none⟩ = some (.int .i64 glb) ∧ w'.cell? ⟨bo, 5, none⟩ = some (.slice Alb Llb clb) ∧ w'.cell? ⟨bo, 6, none⟩ = some (.int .i64 hlb) ∧ w'.cell? ⟨bo, 7, none⟩ = some (.slice Blb Mlb dlb) ∧ w'.cell? ⟨b, off + m * 4, none⟩ = some (.int .i64 gy) ∧ w'.cell? ⟨b, off + m * 4 + 1, none⟩ = some (.slice Ay Ly cy) ∧ w'.cell? ⟨b, off + m * 4 + 2, none⟩ = some (.int .i64 hy) ∧ w'.cell? ⟨b, off + m * 4 + 3, none⟩ = some (.slice By My dy))
            ((with_reducible refine HKS.out _ ?_; (with_reducible repeat' first | exact Ext.refl _ | assumption | apply Ext.alloc_r | apply Ext.drew_r | apply Ext.drewN_r | refine Ext.trans ?_ ‹Ext _ _›)))
            (first
              | (go_at_call 42; refine (qcmp_k (hx.ext (by with_reducible repeat' first | exact Ext.refl _ | assumption | apply Ext.alloc_r | apply Ext.drew_r | apply Ext.drewN_r | refine Ext.trans ?_ ‹Ext _ _›)) (hi.ext (by with_reducible repeat' first | exact Ext.refl _ | assumption | apply Ext.alloc_r | apply Ext.drew_r | apply Ext.drewN_r | refine Ext.trans ?_ ‹Ext _ _›)) hK HC.out.2).mono ?_; rintro e w5 ⟨rfl, x5⟩))
          clear ko_0 ko_1 ko_2 ko_3 ko_4 ko_5 ko_6 ko_7 kc_0 kc_1 kc_2 kc_3
          clear HKS
          have xhw5 : Ext w4 w5 := (by with_reducible repeat' first | exact Ext.refl _ | assumption | apply Ext.alloc_r | apply Ext.drew_r | apply Ext.drewN_r | refine Ext.trans ?_ ‹Ext _ _›)
          have szw5 : w4.heap.size ≤ w5.heap.size := xhw5.size
          replace bxr := bxr.ext xhw5
          replace bxo := bxo.ext xhw5
          have ko_0 := bxo.c 0 (.int .i64 gy) rfl
          have ko_1 := bxo.c 1 (.slice Ay Ly cy) rfl
          have ko_2 := bxo.c 2 (.int .i64 hy) rfl
          have ko_3 := bxo.c 3 (.slice By My dy) rfl
          have ko_4 := bxo.c 4 (.int .i64 glb) rfl
          have ko_5 := bxo.c 5 (.slice Alb Llb clb) rfl
          have ko_6 := bxo.c 6 (.int .i64 hlb) rfl
          have ko_7 := bxo.c 7 (.slice Blb Mlb dlb) rfl
          have kc_0 := (show Ext w w5 from (by with_reducible repeat' first | exact Ext.refl _ | assumption | apply Ext.alloc_r | apply Ext.drew_r | apply Ext.drewN_r | refine Ext.trans ?_ ‹Ext _ _›)).cell k0_0
          have kc_1 := (show Ext w w5 from (by with_reducible repeat' first | exact Ext.refl _ | assumption | apply Ext.alloc_r | apply Ext.drew_r | apply Ext.drewN_r | refine Ext.trans ?_ ‹Ext _ _›)).cell k0_1
          have kc_2 := (show Ext w w5 from (by with_reducible repeat' first | exact Ext.refl _ | assumption | apply Ext.alloc_r | apply Ext.drew_r | apply Ext.drewN_r | refine Ext.trans ?_ ‹Ext _ _›)).cell k0_2
          have kc_3 := (show Ext w w5 from (by with_reducible repeat' first | exact Ext.refl _ | assumption | apply Ext.alloc_r | apply Ext.drew_r | apply Ext.drewN_r | refine Ext.trans ?_ ‹Ext _ _›)).cell k0_3
          go_wp2_with fail
          clear ko_0 ko_1 ko_2 ko_3 ko_4 ko_5 ko_6 ko_7 kc_0 kc_1 kc_2 kc_3
          have HJ2 : Hid (JB w5 bo K (accQ minQ qs m) (accQ maxQ qs m)) := by show JB _ _ _ _ _; rw [HE2.out.1, HE2.out.2]; exact JB.mk bxo (lo.ext (by with_reducible repeat' first | exact Ext.refl _ | assumption | apply Ext.alloc_r | apply Ext.drew_r | apply Ext.drewN_r | refine Ext.trans ?_ ‹Ext _ _›)) (hi.ext (by with_reducible repeat' first | exact Ext.refl _ | assumption | apply Ext.alloc_r | apply Ext.drew_r | apply Ext.drewN_r | refine Ext.trans ?_ ‹Ext _ _›))
          have xw9 : Ext w w5 := (by with_reducible repeat' first | exact Ext.refl _ | assumption | apply Ext.alloc_r | apply Ext.drew_r | apply Ext.drewN_r | refine Ext.trans ?_ ‹Ext _ _›)
          clear bxo lo hi
          go_roundg (qs.length - m)
          case measure => exact HKM.out.2
          case rel => exact ⟨m, (m : Int) + 1, by go_num, rfl, HKM.out.1, HJ2, Nat.le_refl _, bxr, xw9⟩
      · by_cases hB : K2 > 0
        · have HE2 : Hid (accQ minQ qs m = P1 ∧ accQ maxQ qs m = X) := by
            refine ⟨HEL.out.1.trans ?_, HEL.out.2.trans ?_⟩
            · exact min_of_le (Rat.not_lt.1 (fun h => hA (gK1.2 h)))
            · exact max_of_le (Rat.le_of_lt (gK2.1 hB))
          clear HEL gK1 gK2
          go_upto_region 5 with fail
          have ko_0 := bxo.c 0 (.int .i64 gla) rfl
          have ko_1 := bxo.c 1 (.slice Ala Lla cla) rfl
          have ko_2 := bxo.c 2 (.int .i64 hla) rfl
          have ko_3 := bxo.c 3 (.slice Bla Mla dla) rfl
          have ko_4 := bxo.c 4 (.int .i64 glb) rfl
          have ko_5 := bxo.c 5 (.slice Alb Llb clb) rfl
          have ko_6 := bxo.c 6 (.int .i64 hlb) rfl
          have ko_7 := bxo.c 7 (.slice Blb Mlb dlb) rfl
          have kc_0 := (show Ext w wr from (by with_reducible repeat' first | exact Ext.refl _ | assumption | apply Ext.alloc_r | apply Ext.drew_r | apply Ext.drewN_r | refine Ext.trans ?_ ‹Ext _ _›)).cell k0_0
          have kc_1 := (show Ext w wr from (by with_reducible repeat' first | exact Ext.refl _ | assumption | apply Ext.alloc_r | apply Ext.drew_r | apply Ext.drewN_r | refine Ext.trans ?_ ‹Ext _ _›)).cell k0_1
          have kc_2 := (show Ext w wr from (by with_reducible repeat' first | exact Ext.refl _ | assumption | apply Ext.alloc_r | apply Ext.drew_r | apply Ext.drewN_r | refine Ext.trans ?_ ‹Ext _ _›)).cell k0_2
          have kc_3 := (show Ext w wr from (by with_reducible repeat' first | exact Ext.refl _ | assumption | apply Ext.alloc_r | apply Ext.drew_r | apply Ext.drewN_r | refine Ext.trans ?_ ‹Ext _ _›)).cell k0_3
          have HKS : Hid (∀ w', Ext wr w' → (w'.cell? ⟨bo, 0, none⟩ = some (.int .i64 gla) ∧ w'.cell? ⟨bo, 1, none⟩ = some (.slice Ala Lla cla) ∧ w'.cell? ⟨bo, 2, none⟩ = some (.int .i64 hla) ∧ w'.cell? ⟨bo, 3, none⟩ = some (.slice Bla Mla dla) ∧ w'.cell? ⟨bo, 4, none⟩ = some (.int .i64 glb) ∧ w'.cell? ⟨bo, 5, none⟩ = some (.slice Alb Llb clb) ∧ w'.cell? ⟨bo, 6, none⟩ = some (.int .i64 hlb) ∧ w'.cell? ⟨bo, 7, none⟩ = some (.slice Blb Mlb dlb) ∧ w'.cell? ⟨b, off + m * 4, none⟩ = some (.int .i64 gy) ∧ w'.cell? ⟨b, off + m * 4 + 1, none⟩ = some (.slice Ay Ly cy) ∧ w'.cell? ⟨b, off + m * 4 + 2, none⟩ = some (.int .i64 hy) ∧ w'.cell? ⟨b, off + m * 4 + 3, none⟩ = some (.slice By My dy))) := fun w' hk => ⟨hk.cell ko_0, hk.cell ko_1, hk.cell ko_2, hk.cell ko_3, hk.cell ko_4, hk.cell ko_5, hk.cell ko_6, hk.cell ko_7, hk.cell kc_0, hk.cell kc_1, hk.cell kc_2, hk.cell kc_3⟩
          go_region_held3 (fun w' => w'.cell? ⟨bo, 0, none⟩ = some (.int .i64 gla) ∧ w'.cell? ⟨bo, 1, none⟩ = some (.slice Ala Lla cla) ∧ w'.cell? ⟨bo, 2, none⟩ = some (.int .i64 hla) ∧ w'.cell? ⟨bo, 3, none⟩ = some (.slice Bla Mla dla) ∧ w'.cell? ⟨bo, 4, none⟩ = some (.int .i64 glb) ∧ w'.cell? ⟨bo, 5, none⟩ = some (.slice Alb Llb clb) ∧ w'.cell? ⟨bo, 6, none⟩ = some (.int .i64 hlb) ∧ w'.cell? ⟨bo, 7, none⟩ = some (.slice Blb Mlb dlb) ∧ w'.cell? ⟨b, off + m * 4, none⟩ = some (.int .i64 gy) ∧ w'.cell? ⟨b, off + m * 4 + 1, none⟩ = some (.slice Ay Ly cy) ∧ w'.cell? ⟨b, off + m * 4 + 2, none⟩ = some (.int .i64 hy) ∧ w'.cell? ⟨b, off + m * 4 + 3, none⟩ = some (.slice By My dy))
            ((with_reducible refine HKS.out _ ?_; (with_reducible repeat' first | exact Ext.refl _ | assumption | apply Ext.alloc_r | apply Ext.drew_r | apply Ext.drewN_r | refine Ext.trans ?_ ‹Ext _ _›)))
            (first
              | (go_at_call 42; refine (qcmp_k (hx.ext (by with_reducible repeat' first | exact Ext.refl _ | assumption | apply Ext.alloc_r | apply Ext.drew_r | apply Ext.drewN_r | refine Ext.trans ?_ ‹Ext _ _›)) (lo.ext (by with_reducible repeat' first | exact Ext.refl _ | assumption | apply Ext.alloc_r | apply Ext.drew_r | apply Ext.drewN_r | refine Ext.trans ?_ ‹Ext _ _›)) hK HC.out.1).mono ?_; rintro e w3 ⟨rfl, x3⟩))
          clear ko_0 ko_1 ko_2 ko_3 ko_4 ko_5 ko_6 ko_7 kc_0 kc_1 kc_2 kc_3
          clear HKS
          have xhw3 : Ext wr w3 := (by with_reducible repeat' first | exact Ext.refl _ | assumption | apply Ext.alloc_r | apply Ext.drew_r | apply Ext.drewN_r | refine Ext.trans ?_ ‹Ext _ _›)
          have szw3 : wr.heap.size ≤ w3.heap.size := xhw3.size
          replace bxr := bxr.ext xhw3
          replace bxo := bxo.ext xhw3
          have ko_0 := bxo.c 0 (.int .i64 gla) rfl
          have ko_1 := bxo.c 1 (.slice Ala Lla cla) rfl
          have ko_2 := bxo.c 2 (.int .i64 hla) rfl
          have ko_3 := bxo.c 3 (.slice Bla Mla dla) rfl
          have ko_4 := bxo.c 4 (.int .i64 glb) rfl
          have ko_5 := bxo.c 5 (.slice Alb Llb clb) rfl
          have ko_6 := bxo.c 6 (.int .i64 hlb) rfl
          have ko_7 := bxo.c 7 (.slice Blb Mlb dlb) rfl
          have kc_0 := (show Ext w w3 from (by with_reducible repeat' first | exact Ext.refl _ | assumption | apply Ext.alloc_r | apply Ext.drew_r | apply Ext.drewN_r | refine Ext.trans ?_ ‹Ext _ _›)).cell k0_0
          have kc_1 := (show Ext w w3 from (by with_reducible repeat' first | exact Ext.refl _ | assumption | apply Ext.alloc_r | apply Ext.drew_r | apply Ext.drewN_r | refine Ext.trans ?_ ‹Ext _ _›)).cell k0_1
          have kc_2 := (show Ext w w3 from (by with_reducible repeat' first | exact Ext.refl _ | assumption | apply Ext.alloc_r | apply Ext.drew_r | apply Ext.drewN_r | refine Ext.trans ?_ ‹Ext _ _›)).cell k0_2
          have kc_3 := (show Ext w w3 from (by with_reducible repeat' first | exact Ext.refl _ | assumption | apply Ext.alloc_r | apply Ext.drew_r | apply Ext.drewN_r | refine Ext.trans ?_ ‹Ext _ _›)).cell k0_3
          go_wp2_with fail
          clear ko_0 ko_1 ko_2 ko_3 ko_4 ko_5 ko_6 ko_7 kc_0 kc_1 kc_2 kc_3
          have ko_0 := bxo.c 0 (.int .i64 gla) rfl
          have ko_1 := bxo.c 1 (.slice Ala Lla cla) rfl
          have ko_2 := bxo.c 2 (.int .i64 hla) rfl
          have ko_3 := bxo.c 3 (.slice Bla Mla dla) rfl
          have ko_4 := bxo.c 4 (.int .i64 glb) rfl
          have ko_5 := bxo.c 5 (.slice Alb Llb clb) rfl
          have ko_6 := bxo.c 6 (.int .i64 hlb) rfl
          have ko_7 := bxo.c 7 (.slice Blb Mlb dlb) rfl
          have kc_0 := (show Ext w w3 from (by with_reducible repeat' first | exact Ext.refl _ | assumption | apply Ext.alloc_r | apply Ext.drew_r | apply Ext.drewN_r | refine Ext.trans ?_ ‹Ext _ _›)).cell k0_0
          have kc_1 := (show Ext w w3 from (by with_reducible repeat' first | exact Ext.refl _ | assumption | apply Ext.alloc_r | apply Ext.drew_r | apply Ext.drewN_r | refine Ext.trans ?_ ‹Ext _ _›)).cell k0_1
          have kc_2 := (show Ext w w3 from (by with_reducible repeat' first | exact Ext.refl _ | assumption | apply Ext.alloc_r | apply Ext.drew_r | apply Ext.drewN_r | refine Ext.trans ?_ ‹Ext _ _›)).cell k0_2
          have kc_3 := (show Ext w w3 from (by with_reducible repeat' first | exact Ext.refl _ | assumption | apply Ext.alloc_r | apply Ext.drew_r | apply Ext.drewN_r | refine Ext.trans ?_ ‹Ext _ _›)).cell k0_3
          have HKS : Hid (∀ w', Ext w3 w' → (w'.cell? ⟨bo, 0, none⟩ = some (.int .i64 gla) ∧ w'.cell? ⟨bo, 1, none⟩ = some (.slice Ala Lla cla) ∧ w'.cell? ⟨bo, 2, none⟩ = some (.int .i64 hla) ∧ w'.cell? ⟨bo, 3, none⟩ = some (.slice Bla Mla dla) ∧ w'.cell? ⟨bo, 4, none⟩ = some (.int .i64 glb) ∧ w'.cell? ⟨bo, 5, none⟩ = some (.slice Alb Llb clb) ∧ w'.cell? ⟨bo, 6, none⟩ = some (.int .i64 hlb) ∧ w'.cell? ⟨bo, 7, none⟩ = some (.slice Blb Mlb dlb) ∧ w'.cell? ⟨b, off + m * 4, none⟩ = some (.int .i64 gy) ∧ w'.cell? ⟨b, off + m * 4 + 1, none⟩ = some (.slice Ay Ly cy) ∧ w'.cell? ⟨b, off + m * 4 + 2, none⟩ = some (.int .i64 hy) ∧ w'.cell? ⟨b, off + m * 4 + 3, none⟩ = some (.slice By My dy))) := fun w' hk => ⟨hk.cell ko_0, hk.cell ko_1, hk.cell ko_2, hk.cell ko_3, hk.cell ko_4, hk.cell ko_5, hk.cell ko_6, hk.cell ko_7, hk.cell kc_0, hk.cell kc_1, hk.cell kc_2, hk.cell kc_3⟩
          go_region_held3 (fun w' => w'.cell? ⟨bo, 0, none⟩ = some (.int .i64 gla) ∧ w'.cell? ⟨bo, 1, none⟩ = some (.slice Ala Lla cla) ∧ w'.cell? ⟨bo, 2, none⟩ = some (.int .i64 hla) ∧ w'.cell? ⟨bo, 3, none⟩ = some (.slice Bla Mla dla) ∧ w'.cell? ⟨bo, 4, none⟩ = some (.int .i64 glb) ∧ w'.cell? ⟨bo, 5, none⟩ = some (.slice Alb Llb clb) ∧ w'.cell? ⟨bo, 6, none⟩ = some (.int .i64 hlb) ∧ w'.cell? ⟨bo, 7, none⟩ = some (.slice Blb Mlb dlb) ∧ w'.cell? ⟨b, off + m * 4, none⟩ = some (.int .i64 gy) ∧ w'.cell? ⟨b, off + m * 4 + 1, none⟩ = some (.slice Ay Ly cy) ∧ w'.cell? ⟨b, off + m * 4 + 2, none⟩ = some (.int .i64 hy) ∧ w'.cell? ⟨b, off + m * 4 + 3, none⟩ = some (.slice By My dy))
            ((with_reducible refine HKS.out _ ?_; (with_reducible repeat' first | exact Ext.refl _ | assumption | apply Ext.alloc_r | apply Ext.drew_r | apply Ext.drewN_r | refine Ext.trans ?_ ‹Ext _ _›)))
            (first
              | (go_at_call 42; refine (qcmp_k (hx.ext (by with_reducible repeat' first | exact Ext.refl _ | assumption | apply Ext.alloc_r | apply Ext.drew_r | apply Ext.drewN_r | refine Ext.trans ?_ ‹Ext _ _›)) (hi.ext (by with_reducible repeat' first | exact Ext.refl _ | assumption | apply Ext.alloc_r | apply Ext.drew_r | apply Ext.drewN_r | refine Ext.trans ?_ ‹Ext _ _›)) hK HC.out.2).mono ?_; rintro e w4 ⟨rfl, x4⟩))
          clear ko_0 ko_1 ko_2 ko_3 ko_4 ko_5 ko_6 ko_7 kc_0 kc_1 kc_2 kc_3
          clear HKS
          have xhw4 : Ext w3 w4 := (by with_reducible repeat' first | exact Ext.refl _ | assumption | apply Ext.alloc_r | apply Ext.drew_r | apply Ext.drewN_r | refine Ext.trans ?_ ‹Ext _ _›)
          have szw4 : w3.heap.size ≤ w4.heap.size := xhw4.size
          replace bxr := bxr.ext xhw4
          replace bxo := bxo.ext xhw4
          have ko_0 := bxo.c 0 (.int .i64 gla) rfl
          have fo_0 := bxo.f 0
          have ko_1 := bxo.c 1 (.slice Ala Lla cla) rfl
          have fo_1 := bxo.f 1
          have ko_2 := bxo.c 2 (.int .i64 hla) rfl
          have fo_2 := bxo.f 2
          have ko_3 := bxo.c 3 (.slice Bla Mla dla) rfl
          have fo_3 := bxo.f 3
          have ko_4 := bxo.c 4 (.int .i64 glb) rfl
          have fo_4 := bxo.f 4
          have ko_5 := bxo.c 5 (.slice Alb Llb clb) rfl
          have fo_5 := bxo.f 5
          have ko_6 := bxo.c 6 (.int .i64 hlb) rfl
          have fo_6 := bxo.f 6
          have ko_7 := bxo.c 7 (.slice Blb Mlb dlb) rfl
          have fo_7 := bxo.f 7
          have kc_0 := (show Ext w w4 from (by with_reducible repeat' first | exact Ext.refl _ | assumption | apply Ext.alloc_r | apply Ext.drew_r | apply Ext.drewN_r | refine Ext.trans ?_ ‹Ext _ _›)).cell k0_0
          have kc_1 := (show Ext w w4 from (by with_reducible repeat' first | exact Ext.refl _ | assumption | apply Ext.alloc_r | apply Ext.drew_r | apply Ext.drewN_r | refine Ext.trans ?_ ‹Ext _ _›)).cell k0_1
          have kc_2 := (show Ext w w4 from (by with_reducible repeat' first | exact Ext.refl _ | assumption | apply Ext.alloc_r | apply Ext.drew_r | apply Ext.drewN_r | refine Ext.trans ?_ ‹Ext _ _›)).cell k0_2
          have kc_3 := (show Ext w w4 from (by with_reducible repeat' first | exact Ext.refl _ | assumption | apply Ext.alloc_r | apply Ext.drew_r | apply Ext.drewN_r | refine Ext.trans ?_ ‹Ext _ _›)).cell k0_3
          go_wp2_with fail
          clear ko_0 fo_0 ko_1 fo_1 ko_2 fo_2 ko_3 fo_3 ko_4 fo_4 ko_5 fo_5 ko_6 fo_6 ko_7 fo_7 kc_0 kc_1 kc_2 kc_3
          have hxx := hx.ext (show Ext w w4 from (by with_reducible repeat' first | exact Ext.refl _ | assumption | apply Ext.alloc_r | apply Ext.drew_r | apply Ext.drewN_r | refine Ext.trans ?_ ‹Ext _ _›))
          obtain ⟨w5, hw⟩ : ∃ z : World, z = ((((w4.setCell ⟨bo, 4, none⟩ (.int .i64 gy)).setCell ⟨bo, 5, none⟩ (.slice Ay Ly cy)).setCell ⟨bo, 6, none⟩ (.int .i64 hy)).setCell ⟨bo, 7, none⟩ (.slice By My dy)) := ⟨_, rfl⟩
          rw [← hw]
          have kw5 : Kept w4 w5 := by rw [hw]; exact (Kept.set_ (Kept.set_ (Kept.set_ (Kept.set_ (Kept.refl _) bxo.isBox plain_J) (IsBox.set_ bxo.isBox) plain_J) (IsBox.set_ (IsBox.set_ bxo.isBox)) plain_J) (IsBox.set_ (IsBox.set_ (IsBox.set_ bxo.isBox))) plain_J)
          have nbr : BK w5 (w.heap.size) 38 #[.int .i64 0, .slice none 0 0, .int .i64 0, .slice none 0 0, .int .i64 0, .slice none 0 0, .int .i64 0, .slice none 0 0] := by rw [hw]; exact (BK.far (BK.far (BK.far (BK.far bxr (show w.heap.size ≠ bo by omega) 4 _) (show w.heap.size ≠ bo by omega) 5 _) (show w.heap.size ≠ bo by omega) 6 _) (show w.heap.size ≠ bo by omega) 7 _)
          have nbo : BK w5 (bo) 38 #[.int .i64 gla, .slice Ala Lla cla, .int .i64 hla, .slice Bla Mla dla, .int .i64 gy, .slice Ay Ly cy, .int .i64 hy, .slice By My dy] := by rw [hw]; exact (BK.set (i := 7) (u := .slice By My dy) (vs' := #[.int .i64 gla, .slice Ala Lla cla, .int .i64 hla, .slice Bla Mla dla, .int .i64 gy, .slice Ay Ly cy, .int .i64 hy, .slice By My dy]) (BK.set (i := 6) (u := .int .i64 hy) (vs' := #[.int .i64 gla, .slice Ala Lla cla, .int .i64 hla, .slice Bla Mla dla, .int .i64 gy, .slice Ay Ly cy, .int .i64 hy, .slice Blb Mlb dlb]) (BK.set (i := 5) (u := .slice Ay Ly cy) (vs' := #[.int .i64 gla, .slice Ala Lla cla, .int .i64 hla, .slice Bla Mla dla, .int .i64 gy, .slice Ay Ly cy, .int .i64 hlb, .slice Blb Mlb dlb]) (BK.set (i := 4) (u := .int .i64 gy) (vs' := #[.int .i64 gla, .slice Ala Lla cla, .int .i64 hla, .slice Bla Mla dla, .int .i64 gy, .slice Alb Llb clb, .int .i64 hlb, .slice Blb Mlb dlb]) bxo rfl) rfl) rfl) rfl)
          have x5 : Ext w w5 := by rw [hw]; have hxp : Ext w w4 := (by with_reducible repeat' first | exact Ext.refl _ | assumption | apply Ext.alloc_r | apply Ext.drew_r | apply Ext.drewN_r | refine Ext.trans ?_ ‹Ext _ _›); exact (Ext.set_ (Ext.set_ (Ext.set_ (Ext.set_ hxp (show _ ≤ bo by omega)) (show _ ≤ bo by omega)) (show _ ≤ bo by omega)) (show _ ≤ bo by omega))
          clear bxr
          clear bxo
          have bxr := nbr
          clear nbr
          have bxo := nbo
          clear nbo
          have szw5 : w5.heap.size = w4.heap.size := by rw [hw]; simp
          replace hxx := (hxx.ext (by with_reducible repeat' first | exact Ext.refl _ | assumption | apply Ext.alloc_r | apply Ext.drew_r | apply Ext.drewN_r | refine Ext.trans ?_ ‹Ext _ _›)).kept kw5
          replace lo := (lo.ext (by with_reducible repeat' first | exact Ext.refl _ | assumption | apply Ext.alloc_r | apply Ext.drew_r | apply Ext.drewN_r | refine Ext.trans ?_ ‹Ext _ _›)).kept kw5
          clear hw kw5
          have hi := hxx
          clear hxx
          have HJ2 : Hid (JB w5 bo K (accQ minQ qs m) (accQ maxQ qs m)) := by show JB _ _ _ _ _; rw [HE2.out.1, HE2.out.2]; exact JB.mk bxo (lo.ext (by with_reducible repeat' first | exact Ext.refl _ | assumption | apply Ext.alloc_r | apply Ext.drew_r | apply Ext.drewN_r | refine Ext.trans ?_ ‹Ext _ _›)) (hi.ext (by with_reducible repeat' first | exact Ext.refl _ | assumption | apply Ext.alloc_r | apply Ext.drew_r | apply Ext.drewN_r | refine Ext.trans ?_ ‹Ext _ _›))
          have xw9 : Ext w w5 := (by with_reducible repeat' first | exact Ext.refl _ | assumption | apply Ext.alloc_r | apply Ext.drew_r | apply Ext.drewN_r | refine Ext.trans ?_ ‹Ext _ _›)
          clear bxo lo hi
          go_roundg (qs.length - m)
          case measure => exact HKM.out.2
          case rel => exact ⟨m, (m : Int) + 1, by go_num, rfl, HKM.out.1, HJ2, Nat.le_refl _, bxr, xw9⟩
        · have HE2 : Hid (accQ minQ qs m = P1 ∧ accQ maxQ qs m = P2) := by
            refine ⟨HEL.out.1.trans ?_, HEL.out.2.trans ?_⟩
            · exact min_of_le (Rat.not_lt.1 (fun h => hA (gK1.2 h)))
            · rw [maxQ_comm]; exact max_of_le (Rat.not_lt.1 (fun h => hB (gK2.2 h)))
          clear HEL gK1 gK2
          go_upto_region 5 with fail
          have ko_0 := bxo.c 0 (.int .i64 gla) rfl
          have ko_1 := bxo.c 1 (.slice Ala Lla cla) rfl
          have ko_2 := bxo.c 2 (.int .i64 hla) rfl
          have ko_3 := bxo.c 3 (.slice Bla Mla dla) rfl
          have ko_4 := bxo.c 4 (.int .i64 glb) rfl
          have ko_5 := bxo.c 5 (.slice Alb Llb clb) rfl
          have ko_6 := bxo.c 6 (.int .i64 hlb) rfl
          have ko_7 := bxo.c 7 (.slice Blb Mlb dlb) rfl
          have kc_0 := (show Ext w wr from (by with_reducible repeat' first | exact Ext.refl _ | assumption | apply Ext.alloc_r | apply Ext.drew_r | apply Ext.drewN_r | refine Ext.trans ?_ ‹Ext _ _›)).cell k0_0
          have kc_1 := (show Ext w wr from (by with_reducible repeat' first | exact Ext.refl _ | assumption | apply Ext.alloc_r | apply Ext.drew_r | apply Ext.drewN_r | refine Ext.trans ?_ ‹Ext _ _›)).cell k0_1
          have kc_2 := (show Ext w wr from (by with_reducible repeat' first | exact Ext.refl _ | assumption | apply Ext.alloc_r | apply Ext.drew_r | apply Ext.drewN_r | refine Ext.trans ?_ ‹Ext _ _›)).cell k0_2
          have kc_3 := (show Ext w wr from (by with_reducible repeat' first | exact Ext.refl _ | assumption | apply Ext.alloc_r | apply Ext.drew_r | apply Ext.drewN_r | refine Ext.trans ?_ ‹Ext _ _›)).cell k0_3
          have HKS : Hid (∀ w', Ext wr w' → (w'.cell? ⟨bo, 0, none⟩ = some (.int .i64 gla) ∧ w'.cell? ⟨bo, 1, none⟩ = some (.slice Ala Lla cla) ∧ w'.cell? ⟨bo, 2, none⟩ = some (.int .i64 hla) ∧ w'.cell? ⟨bo, 3, none⟩ = some (.slice Bla Mla dla) ∧ w'.cell? ⟨bo, 4, none⟩ = some (.int .i64 glb) ∧ w'.cell? ⟨bo, 5, none⟩ = some (.slice Alb Llb clb) ∧ w'.cell? ⟨bo, 6, none⟩ = some (.int .i64 hlb) ∧ w'.cell? ⟨bo, 7, none⟩ = some (.slice Blb Mlb dlb) ∧ w'.cell? ⟨b, off + m * 4, none⟩ = some (.int .i64 gy) ∧ w'.cell? ⟨b, off + m * 4 + 1, none⟩ = some (.slice Ay Ly cy) ∧ w'.cell? ⟨b, off + m * 4 + 2, none⟩ = some (.int .i64 hy) ∧ w'.cell? ⟨b, off + m * 4 + 3, none⟩ = some (.slice By My dy))) := fun w' hk => ⟨hk.cell ko_0, hk.cell ko_1, hk.cell ko_2, hk.cell ko_3, hk.cell ko_4, hk.cell ko_5, hk.cell ko_6, hk.cell ko_7, hk.cell kc_0, hk.cell kc_1, hk.cell kc_2, hk.cell kc_3⟩
          go_region_held3 (fun w' => w'.cell? ⟨bo, 0, none⟩ = some (.int .i64 gla) ∧ w'.cell? ⟨bo, 1, none⟩ = some (.slice Ala Lla cla) ∧ w'.cell? ⟨bo, 2, none⟩ = some (.int .i64 hla) ∧ w'.cell? ⟨bo, 3, none⟩ = some (.slice Bla Mla dla) ∧ w'.cell? ⟨bo, 4, none⟩ = some (.int .i64 glb) ∧ w'.cell? ⟨bo, 5, none⟩ = some (.slice Alb Llb clb) ∧ w'.cell? ⟨bo, 6, none⟩ = some (.int .i64 hlb) ∧ w'.cell? ⟨bo, 7, none⟩ = some (.slice Blb Mlb dlb) ∧ w'.cell? ⟨b, off + m * 4, none⟩ = some (.int .i64 gy) ∧ w'.cell? ⟨b, off + m * 4 + 1, none⟩ = some (.slice Ay Ly cy) ∧ w'.cell? ⟨b, off + m * 4 + 2, none⟩ = some (.int .i64 hy) ∧ w'.cell? ⟨b, off + m * 4 + 3, none⟩ = some (.slice By My dy))
            ((with_reducible refine HKS.out _ ?_; (with_reducible repeat' first | exact Ext.refl _ | assumption | apply Ext.alloc_r | apply Ext.drew_r | apply Ext.drewN_r | refine Ext.trans ?_ ‹Ext _ _›)))
            (first
              | (go_at_call 42; refine (qcmp_k (hx.ext (by with_reducible repeat' first | exact Ext.refl _ | assumption | apply Ext.alloc_r | apply Ext.drew_r | apply Ext.drewN_r | refine Ext.trans ?_ ‹Ext _ _›)) (lo.ext (by with_reducible repeat' first | exact Ext.refl _ | assumption | apply Ext.alloc_r | apply Ext.drew_r | apply Ext.drewN_r | refine Ext.trans ?_ ‹Ext _ _›)) hK HC.out.1).mono ?_; rintro e w3 ⟨rfl, x3⟩))
          clear ko_0 ko_1 ko_2 ko_3 ko_4 ko_5 ko_6 ko_7 kc_0 kc_1 kc_2 kc_3
          clear HKS
          have xhw3 : Ext wr w3 := (by with_reducible repeat' first | exact Ext.refl _ | assumption | apply Ext.alloc_r | apply Ext.drew_r | apply Ext.drewN_r | refine Ext.trans ?_ ‹Ext _ _›)
          have szw3 : wr.heap.size ≤ w3.heap.size := xhw3.size
          replace bxr := bxr.ext xhw3
          replace bxo := bxo.ext xhw3
          have ko_0 := bxo.c 0 (.int .i64 gla) rfl
          have ko_1 := bxo.c 1 (.slice Ala Lla cla) rfl
          have ko_2 := bxo.c 2 (.int .i64 hla) rfl
          have ko_3 := bxo.c 3 (.slice Bla Mla dla) rfl
          have ko_4 := bxo.c 4 (.int .i64 glb) rfl
          have ko_5 := bxo.c 5 (.slice Alb Llb clb) rfl
          have ko_6 := bxo.c 6 (.int .i64 hlb) rfl
          have ko_7 := bxo.c 7 (.slice Blb Mlb dlb) rfl
          have kc_0 := (show Ext w w3 from (by with_reducible repeat' first | exact Ext.refl _ | assumption | apply Ext.alloc_r | apply Ext.drew_r | apply Ext.drewN_r | refine Ext.trans ?_ ‹Ext _ _›)).cell k0_0
          have kc_1 := (show Ext w w3 from (by with_reducible repeat' first | exact Ext.refl _ | assumption | apply Ext.alloc_r | apply Ext.drew_r | apply Ext.drewN_r | refine Ext.trans ?_ ‹Ext _ _›)).cell k0_1
          have kc_2 := (show Ext w w3 from (by with_reducible repeat' first | exact Ext.refl _ | assumption | apply Ext.alloc_r | apply Ext.drew_r | apply Ext.drewN_r | refine Ext.trans ?_ ‹Ext _ _›)).cell k0_2
          have kc_3 := (show Ext w w3 from (by with_reducible repeat' first | exact Ext.refl _ | assumption | apply Ext.alloc_r | apply Ext.drew_r | apply Ext.drewN_r | refine Ext.trans ?_ ‹Ext _ _›)).cell k0_3
          go_wp2_with fail
          clear ko_0 ko_1 ko_2 ko_3 ko_4 ko_5 ko_6 ko_7 kc_0 kc_1 kc_2 kc_3
          have ko_0 := bxo.c 0 (.int .i64 gla) rfl
          have ko_1 := bxo.c 1 (.slice Ala Lla cla) rfl
          have ko_2 := bxo.c 2 (.int .i64 hla) rfl
          have ko_3 := bxo.c 3 (.slice Bla Mla dla) rfl
          have ko_4 := bxo.c 4 (.int .i64 glb) rfl
          have ko_5 := bxo.c 5 (.slice Alb Llb clb) rfl
          have ko_6 := bxo.c 6 (.int .i64 hlb) rfl
          have ko_7 := bxo.c 7 (.slice Blb Mlb dlb) rfl
          have kc_0 := (show Ext w w3 from (by with_reducible repeat' first | exact Ext.refl _ | assumption | apply Ext.alloc_r | apply Ext.drew_r | apply Ext.drewN_r | refine Ext.trans ?_ ‹Ext _ _›)).cell k0_0
          have kc_1 := (show Ext w w3 from (by with_reducible repeat' first | exact Ext.refl _ | assumption | apply Ext.alloc_r | apply Ext.drew_r | apply Ext.drewN_r | refine Ext.trans ?_ ‹Ext _ _›)).cell k0_1
          have kc_2 := (show Ext w w3 from (by with_reducible repeat' first | exact Ext.refl _ | assumption | apply Ext.alloc_r | apply Ext.drew_r | apply Ext.drewN_r | refine Ext.trans ?_ ‹Ext _ _›)).cell k0_2
          have kc_3 := (show Ext w w3 from (by with_reducible repeat' first | exact Ext.refl _ | assumption | apply Ext.alloc_r | apply Ext.drew_r | apply Ext.drewN_r | refine Ext.trans ?_ ‹Ext _ _›)).cell k0_3
          have HKS : Hid (∀ w', Ext w3 w' → (w'.cell? ⟨bo, 0, none⟩ = some (.int .i64 gla) ∧ w'.cell? ⟨bo, 1, none⟩ = some (.slice Ala Lla cla) ∧ w'.cell? ⟨bo, 2, none⟩ = some (.int .i64 hla) ∧ w'.cell? ⟨bo, 3, none⟩ = some (.slice Bla Mla dla) ∧ w'.cell? ⟨bo, 4, none⟩ = some (.int .i64 glb) ∧ w'.cell? ⟨bo, 5, none⟩ = some (.slice Alb Llb clb) ∧ w'.cell? ⟨bo, 6, none⟩ = some (.int .i64 hlb) ∧ w'.cell? ⟨bo, 7, none⟩ = some (.slice Blb Mlb dlb) ∧ w'.cell? ⟨b, off + m * 4, none⟩ = some (.int .i64 gy) ∧ w'.cell? ⟨b, off + m * 4 + 1, none⟩ = some (.slice Ay Ly cy) ∧ w'.cell? ⟨b, off + m * 4 + 2, none⟩ = some (.int .i64 hy) ∧ w'.cell? ⟨b, off + m * 4 + 3, none⟩ = some (.slice By My dy))) := fun w' hk => ⟨hk.cell ko_0, hk.cell ko_1, hk.cell ko_2, hk.cell ko_3, hk.cell ko_4, hk.cell ko_5, hk.cell ko_6, hk.cell ko_7, hk.cell kc_0, hk.cell kc_1, hk.cell kc_2, hk.cell kc_3⟩
          go_region_held3 (fun w' => w'.cell? ⟨bo, 0, none⟩ = some (.int .i64 gla) ∧ w'.cell? ⟨bo, 1, none⟩ = some (.slice Ala Lla cla) ∧ w'.cell? ⟨bo, 2, none⟩ = some (.int .i64 hla) ∧ w'.cell? ⟨bo, 3, none⟩ = some (.slice Bla Mla dla) ∧ w'.cell? ⟨bo, 4, none⟩ = some (.int .i64 glb) ∧ w'.cell? ⟨bo, 5, none⟩ = some (.slice Alb Llb clb) ∧ w'.cell? ⟨bo, 6, none⟩ = some (.int .i64 hlb) ∧ w'.cell? ⟨bo, 7, none⟩ = some (.slice Blb Mlb dlb) ∧ w'.cell? ⟨b, off + m * 4, none⟩ = some (.int .i64 gy) ∧ w'.cell? ⟨b, off + m * 4 + 1, none⟩ = some (.slice Ay Ly cy) ∧ w'.cell? ⟨b, off + m * 4 + 2, none⟩ = some (.int .i64 hy) ∧ w'.cell? ⟨b, off + m * 4 + 3, none⟩ = some (.slice By My dy))
            ((with_reducible refine HKS.out _ ?_; (with_reducible repeat' first | exact Ext.refl _ | assumption | apply Ext.alloc_r | apply Ext.drew_r | apply Ext.drewN_r | refine Ext.trans ?_ ‹Ext _ _›)))
            (first
              | (go_at_call 42; refine (qcmp_k (hx.ext (by with_reducible repeat' first | exact Ext.refl _ | assumption | apply Ext.alloc_r | apply Ext.drew_r | apply Ext.drewN_r | refine Ext.trans ?_ ‹Ext _ _›)) (hi.ext (by with_reducible repeat' first | exact Ext.refl _ | assumption | apply Ext.alloc_r | apply Ext.drew_r | apply Ext.drewN_r | refine Ext.trans ?_ ‹Ext _ _›)) hK HC.out.2).mono ?_; rintro e w4 ⟨rfl, x4⟩))
          clear ko_0 ko_1 ko_2 ko_3 ko_4 ko_5 ko_6 ko_7 kc_0 kc_1 kc_2 kc_3
          clear HKS
          have xhw4 : Ext w3 w4 := (by with_reducible repeat' first | exact Ext.refl _ | assumption | apply Ext.alloc_r | apply Ext.drew_r | apply Ext.drewN_r | refine Ext.trans ?_ ‹Ext _ _›)
          have szw4 : w3.heap.size ≤ w4.heap.size := xhw4.size
          replace bxr := bxr.ext xhw4
          replace bxo := bxo.ext xhw4
          have ko_0 := bxo.c 0 (.int .i64 gla) rfl
          have ko_1 := bxo.c 1 (.slice Ala Lla cla) rfl
          have ko_2 := bxo.c 2 (.int .i64 hla) rfl
          have ko_3 := bxo.c 3 (.slice Bla Mla dla) rfl
          have ko_4 := bxo.c 4 (.int .i64 glb) rfl
          have ko_5 := bxo.c 5 (.slice Alb Llb clb) rfl
          have ko_6 := bxo.c 6 (.int .i64 hlb) rfl
          have ko_7 := bxo.c 7 (.slice Blb Mlb dlb) rfl
          have kc_0 := (show Ext w w4 from (by with_reducible repeat' first | exact Ext.refl _ | assumption | apply Ext.alloc_r | apply Ext.drew_r | apply Ext.drewN_r | refine Ext.trans ?_ ‹Ext _ _›)).cell k0_0
          have kc_1 := (show Ext w w4 from (by with_reducible repeat' first | exact Ext.refl _ | assumption | apply Ext.alloc_r | apply Ext.drew_r | apply Ext.drewN_r | refine Ext.trans ?_ ‹Ext _ _›)).cell k0_1
          have kc_2 := (show Ext w w4 from (by with_reducible repeat' first | exact Ext.refl _ | assumption | apply Ext.alloc_r | apply Ext.drew_r | apply Ext.drewN_r | refine Ext.trans ?_ ‹Ext _ _›)).cell k0_2
          have kc_3 := (show Ext w w4 from (by with_reducible repeat' first | exact Ext.refl _ | assumption | apply Ext.alloc_r | apply Ext.drew_r | apply Ext.drewN_r | refine Ext.trans ?_ ‹Ext _ _›)).cell k0_3
          go_wp2_with fail
          clear ko_0 ko_1 ko_2 ko_3 ko_4 ko_5 ko_6 ko_7 kc_0 kc_1 kc_2 kc_3
          have HJ2 : Hid (JB w4 bo K (accQ minQ qs m) (accQ maxQ qs m)) := by show JB _ _ _ _ _; rw [HE2.out.1, HE2.out.2]; exact JB.mk bxo (lo.ext (by with_reducible repeat' first | exact Ext.refl _ | assumption | apply Ext.alloc_r | apply Ext.drew_r | apply Ext.drewN_r | refine Ext.trans ?_ ‹Ext _ _›)) (hi.ext (by with_reducible repeat' first | exact Ext.refl _ | assumption | apply Ext.alloc_r | apply Ext.drew_r | apply Ext.drewN_r | refine Ext.trans ?_ ‹Ext _ _›))
          have xw9 : Ext w w4 := (by with_reducible repeat' first | exact Ext.refl _ | assumption | apply Ext.alloc_r | apply Ext.drew_r | apply Ext.drewN_r | refine Ext.trans ?_ ‹Ext _ _›)
          clear bxo lo hi
          go_roundg (qs.length - m)
          case measure => exact HKM.out.2
          case rel => exact ⟨m, (m : Int) + 1, by go_num, rfl, HKM.out.1, HJ2, Nat.le_refl _, bxr, xw9⟩
    · have hz2 : ¬ z < (L0 : Int) := by have := HL.out; omega
      have HE2 : Hid (j = qs.length - 1) := by show _ = _; omega
      obtain ⟨gla, Ala, cla, Lla, hla, Bla, dla, Mla, glb, Alb, clb, Llb, hlb, Blb, dlb, Mlb, bxo, lo, hi⟩ := HJB.out
      have szr := hxr.size
      clear HJB HK hz hlt hj hc
      have kr_0 := bxr.c 0 (.int .i64 0) rfl
      have fr_0 := bxr.f 0
      have kr_1 := bxr.c 1 (.slice none 0 0) rfl
      have fr_1 := bxr.f 1
      have kr_2 := bxr.c 2 (.int .i64 0) rfl
      have fr_2 := bxr.f 2
      have kr_3 := bxr.c 3 (.slice none 0 0) rfl
      have fr_3 := bxr.f 3
      have kr_4 := bxr.c 4 (.int .i64 0) rfl
      have fr_4 := bxr.f 4
      have kr_5 := bxr.c 5 (.slice none 0 0) rfl
      have fr_5 := bxr.f 5
      have kr_6 := bxr.c 6 (.int .i64 0) rfl
      have fr_6 := bxr.f 6
      have kr_7 := bxr.c 7 (.slice none 0 0) rfl
      have fr_7 := bxr.f 7
      have ko_0 := bxo.c 0 (.int .i64 gla) rfl
      have ko_1 := bxo.c 1 (.slice Ala Lla cla) rfl
      have ko_2 := bxo.c 2 (.int .i64 hla) rfl
      have ko_3 := bxo.c 3 (.slice Bla Mla dla) rfl
      have ko_4 := bxo.c 4 (.int .i64 glb) rfl
      have ko_5 := bxo.c 5 (.slice Alb Llb clb) rfl
      have ko_6 := bxo.c 6 (.int .i64 hlb) rfl
      have ko_7 := bxo.c 7 (.slice Blb Mlb dlb) rfl
      go_wp2_with fail
      clear kr_0 fr_0 kr_1 fr_1 kr_2 fr_2 kr_3 fr_3 kr_4 fr_4 kr_5 fr_5 kr_6 fr_6 kr_7 fr_7 ko_0 ko_1 ko_2 ko_3 ko_4 ko_5 ko_6 ko_7
      obtain ⟨w5, hw⟩ : ∃ z : World, z = ((((((((wr.setCell ⟨w.heap.size, 0, none⟩ (.int .i64 gla)).setCell ⟨w.heap.size, 1, none⟩ (.slice Ala Lla cla)).setCell ⟨w.heap.size, 2, none⟩ (.int .i64 hla)).setCell ⟨w.heap.size, 3, none⟩ (.slice Bla Mla dla)).setCell ⟨w.heap.size, 4, none⟩ (.int .i64 glb)).setCell ⟨w.heap.size, 5, none⟩ (.slice Alb Llb clb)).setCell ⟨w.heap.size, 6, none⟩ (.int .i64 hlb)).setCell ⟨w.heap.size, 7, none⟩ (.slice Blb Mlb dlb)) := ⟨_, rfl⟩
      rw [← hw]
      have kw5 : Kept wr w5 := by rw [hw]; exact (Kept.set_ (Kept.set_ (Kept.set_ (Kept.set_ (Kept.set_ (Kept.set_ (Kept.set_ (Kept.set_ (Kept.refl _) bxr.isBox plain_J) (IsBox.set_ bxr.isBox) plain_J) (IsBox.set_ (IsBox.set_ bxr.isBox)) plain_J) (IsBox.set_ (IsBox.set_ (IsBox.set_ bxr.isBox))) plain_J) (IsBox.set_ (IsBox.set_ (IsBox.set_ (IsBox.set_ bxr.isBox)))) plain_J) (IsBox.set_ (IsBox.set_ (IsBox.set_ (IsBox.set_ (IsBox.set_ bxr.isBox))))) plain_J) (IsBox.set_ (IsBox.set_ (IsBox.set_ (IsBox.set_ (IsBox.set_ (IsBox.set_ bxr.isBox)))))) plain_J) (IsBox.set_ (IsBox.set_ (IsBox.set_ (IsBox.set_ (IsBox.set_ (IsBox.set_ (IsBox.set_ bxr.isBox))))))) plain_J)
      have nbr : BK w5 (w.heap.size) 38 #[.int .i64 gla, .slice Ala Lla cla, .int .i64 hla, .slice Bla Mla dla, .int .i64 glb, .slice Alb Llb clb, .int .i64 hlb, .slice Blb Mlb dlb] := by rw [hw]; exact (BK.set (i := 7) (u := .slice Blb Mlb dlb) (vs' := #[.int .i64 gla, .slice Ala Lla cla, .int .i64 hla, .slice Bla Mla dla, .int .i64 glb, .slice Alb Llb clb, .int .i64 hlb, .slice Blb Mlb dlb]) (BK.set (i := 6) (u := .int .i64 hlb) (vs' := #[.int .i64 gla, .slice Ala Lla cla, .int .i64 hla, .slice Bla Mla dla, .int .i64 glb, .slice Alb Llb clb, .int .i64 hlb, .slice none 0 0]) (BK.set (i := 5) (u := .slice Alb Llb clb) (vs' := #[.int .i64 gla, .slice Ala Lla cla, .int .i64 hla, .slice Bla Mla dla, .int .i64 glb, .slice Alb Llb clb, .int .i64 0, .slice none 0 0]) (BK.set (i := 4) (u := .int .i64 glb) (vs' := #[.int .i64 gla, .slice Ala Lla cla, .int .i64 hla, .slice Bla Mla dla, .int .i64 glb, .slice none 0 0, .int .i64 0, .slice none 0 0]) (BK.set (i := 3) (u := .slice Bla Mla dla) (vs' := #[.int .i64 gla, .slice Ala Lla cla, .int .i64 hla, .slice Bla Mla dla, .int .i64 0, .slice none 0 0, .int .i64 0, .slice none 0 0]) (BK.set (i := 2) (u := .int .i64 hla) (vs' := #[.int .i64 gla, .slice Ala Lla cla, .int .i64 hla, .slice none 0 0, .int .i64 0, .slice none 0 0, .int .i64 0, .slice none 0 0]) (BK.set (i := 1) (u := .slice Ala Lla cla) (vs' := #[.int .i64 gla, .slice Ala Lla cla, .int .i64 0, .slice none 0 0, .int .i64 0, .slice none 0 0, .int .i64 0, .slice none 0 0]) (BK.set (i := 0) (u := .int .i64 gla) (vs' := #[.int .i64 gla, .slice none 0 0, .int .i64 0, .slice none 0 0, .int .i64 0, .slice none 0 0, .int .i64 0, .slice none 0 0]) bxr rfl) rfl) rfl) rfl) rfl) rfl) rfl) rfl)
      have nbo : BK w5 (bo) 38 #[.int .i64 gla, .slice Ala Lla cla, .int .i64 hla, .slice Bla Mla dla, .int .i64 glb, .slice Alb Llb clb, .int .i64 hlb, .slice Blb Mlb dlb] := by rw [hw]; exact (BK.far (BK.far (BK.far (BK.far (BK.far (BK.far (BK.far (BK.far bxo (show bo ≠ w.heap.size by omega) 0 _) (show bo ≠ w.heap.size by omega) 1 _) (show bo ≠ w.heap.size by omega) 2 _) (show bo ≠ w.heap.size by omega) 3 _) (show bo ≠ w.heap.size by omega) 4 _) (show bo ≠ w.heap.size by omega) 5 _) (show bo ≠ w.heap.size by omega) 6 _) (show bo ≠ w.heap.size by omega) 7 _)
      have x5 : Ext w w5 := by rw [hw]; have hxp : Ext w wr := (by with_reducible repeat' first | exact Ext.refl _ | assumption | apply Ext.alloc_r | apply Ext.drew_r | apply Ext.drewN_r | refine Ext.trans ?_ ‹Ext _ _›); exact (Ext.set_ (Ext.set_ (Ext.set_ (Ext.set_ (Ext.set_ (Ext.set_ (Ext.set_ (Ext.set_ hxp (show _ ≤ w.heap.size by omega)) (show _ ≤ w.heap.size by omega)) (show _ ≤ w.heap.size by omega)) (show _ ≤ w.heap.size by omega)) (show _ ≤ w.heap.size by omega)) (show _ ≤ w.heap.size by omega)) (show _ ≤ w.heap.size by omega)) (show _ ≤ w.heap.size by omega))
      clear bxr
      clear bxo
      have bxr := nbr
      clear nbr
      have bxo := nbo
      clear nbo
      have szw5 : w5.heap.size = wr.heap.size := by rw [hw]; simp
      replace lo := (lo.ext (by with_reducible repeat' first | exact Ext.refl _ | assumption | apply Ext.alloc_r | apply Ext.drew_r | apply Ext.drewN_r | refine Ext.trans ?_ ‹Ext _ _›)).kept kw5
      replace hi := (hi.ext (by with_reducible repeat' first | exact Ext.refl _ | assumption | apply Ext.alloc_r | apply Ext.drew_r | apply Ext.drewN_r | refine Ext.trans ?_ ‹Ext _ _›)).kept kw5
      clear hw kw5
      have HU := Lib.hid lo
      have HV := Lib.hid hi
      clear lo hi
      have kr_0 := bxr.c 0 (.int .i64 gla) rfl
      have kr_1 := bxr.c 1 (.slice Ala Lla cla) rfl
      have kr_2 := bxr.c 2 (.int .i64 hla) rfl
      have kr_3 := bxr.c 3 (.slice Bla Mla dla) rfl
      have kr_4 := bxr.c 4 (.int .i64 glb) rfl
      have kr_5 := bxr.c 5 (.slice Alb Llb clb) rfl
      have kr_6 := bxr.c 6 (.int .i64 hlb) rfl
      have kr_7 := bxr.c 7 (.slice Blb Mlb dlb) rfl
      refine bodyPost_ret (v := Value.agg #[Value.int IntKind.i64 gla, Value.slice Ala Lla cla, Value.int IntKind.i64 hla, Value.slice Bla Mla dla, Value.int IntKind.i64 glb, Value.slice Alb Llb clb, Value.int IntKind.i64 hlb, Value.slice Blb Mlb dlb]) (by simp [results, Tryz.results40, go_sem, kr_0, kr_1, kr_2, kr_3, kr_4, kr_5, kr_6, kr_7]) rfl ?_
      exact ⟨_, _, _, _, _, _, _, _, _, _, _, _, _, _, _, _, rfl, by rw [← HE2.out]; exact HU.out, by rw [← HE2.out]; exact HV.out, x5⟩
end Go.Proofs.YtehhkeenjlpikaaGreat
