/- The walk of NaturalRing. -/
import Derived.Test.YtjefndkhonpalaaNatV
namespace Go.Proofs.Ytjefndkhonpalaa
open Go.RowKit

theorem naturalRing_walk {w : World} {A1 A2 A3 : Option Addr} {c1 c2 c3 L1 L2 L3 a b c : Nat} (h1 : NV w A1 c1 L1 a) (h2 : NV w A2 c2 L2 b) (h3 : NV w A3 c3 L3 c) :
    Calls Try.prog 4 #[.slice A1 L1 c1, .slice A2 L2 c2, .slice A3 L3 c3] w fun e w' => e = .returned (.bool true) ∧ Ext w w' := by
  have l1 := h1.le
  have l2 := h2.le
  have l3 := h3.le
  have p1 := h1.cap
  have p2 := h2.cap
  have p3 := h3.cap
  have hx := Ext.refl w
  by_cases hf : (decide (L1 ≤ 8) && (decide (L2 ≤ 8) && decide (L3 ≤ 8))) = true
  · have k1 : L1 ≤ 8 ∧ L2 ≤ 8 ∧ L3 ≤ 8 := by simp at hf; omega
    have s1 := h1.dl
    have s2 := h2.dl
    have s3 := h3.dl
    have d1 := dl_add b c
    have d2 := dl_add a b
    have d3 := dl_mul a b
    have d4 := dl_mul a c
    have d5 := dl_mul b c
    have HF := Lib.hid hf
    clear hf
    go_enter Try.func4, Try.ntmps4
    go_wp2_with fail
    refine (awake1 _).mono ?_
    rintro e w1 ⟨rfl, x1⟩
    have hx := hx.trans x1
    have h1 := h1.ext x1
    have h2 := h2.ext x1
    have h3 := h3.ext x1
    go_wp2_with fail
    refine (few3 (by omega) (by omega) (by omega)).mono ?_
    rintro e w2 ⟨rfl, x2⟩
    have hx := hx.trans x2
    have h1 := h1.ext x2
    have h2 := h2.ext x2
    have h3 := h3.ext x2
    rw [HF.out]
    go_wp2_with fail
    refine (add_v h2 h3 (by omega) (by omega)).mono ?_
    rintro e w3 ⟨As1, cs1, rfl, s1, x3⟩
    have hx := hx.trans x3
    have h1 := h1.ext x3
    have h2 := h2.ext x3
    have h3 := h3.ext x3
    go_wp2_with fail
    refine (mul_v h1 s1.nv (by omega) (by omega)).mono ?_
    rintro e w4 ⟨Am1, cm1, rfl, m1, x4⟩
    have hx := hx.trans x4
    have h1 := h1.ext x4
    have h2 := h2.ext x4
    have h3 := h3.ext x4
    have s1 := s1.ext x4
    go_wp2_with fail
    refine (mul_v h1 h2 (by omega) (by omega)).mono ?_
    rintro e w5 ⟨Am2, cm2, rfl, m2, x5⟩
    have hx := hx.trans x5
    have h1 := h1.ext x5
    have h2 := h2.ext x5
    have h3 := h3.ext x5
    have s1 := s1.ext x5
    have m1 := m1.ext x5
    go_wp2_with fail
    refine (mul_v h1 h3 (by omega) (by omega)).mono ?_
    rintro e w6 ⟨Am3, cm3, rfl, m3, x6⟩
    have hx := hx.trans x6
    have h1 := h1.ext x6
    have h2 := h2.ext x6
    have h3 := h3.ext x6
    have s1 := s1.ext x6
    have m1 := m1.ext x6
    have m2 := m2.ext x6
    go_wp2_with fail
    refine (add_v m2.nv m3.nv (by omega) (by omega)).mono ?_
    rintro e w7 ⟨As2, cs2, rfl, s2, x7⟩
    have hx := hx.trans x7
    have h1 := h1.ext x7
    have h2 := h2.ext x7
    have h3 := h3.ext x7
    have s1 := s1.ext x7
    have m1 := m1.ext x7
    have m2 := m2.ext x7
    have m3 := m3.ext x7
    go_wp2_with fail
    refine (cmp_eq_v m1.nv s2.nv (Nat.mul_add _ _ _)).mono ?_
    rintro e w8 ⟨rfl, q8⟩
    have x8 := q8.ext
    have hx := hx.trans x8
    have h1 := h1.ext x8
    have h2 := h2.ext x8
    have h3 := h3.ext x8
    have s1 := s1.ext x8
    have m1 := m1.ext x8
    have m2 := m2.ext x8
    have m3 := m3.ext x8
    have s2 := s2.ext x8
    go_wp2_with fail
    refine (add_v h1 h2 (by omega) (by omega)).mono ?_
    rintro e w9 ⟨As3, cs3, rfl, s3, x9⟩
    have hx := hx.trans x9
    have h1 := h1.ext x9
    have h2 := h2.ext x9
    have h3 := h3.ext x9
    have s1 := s1.ext x9
    have m1 := m1.ext x9
    have m2 := m2.ext x9
    have m3 := m3.ext x9
    have s2 := s2.ext x9
    go_wp2_with fail
    refine (add_v h2 h1 (by omega) (by omega)).mono ?_
    rintro e w10 ⟨As4, cs4, rfl, s4, x10⟩
    have hx := hx.trans x10
    have h1 := h1.ext x10
    have h2 := h2.ext x10
    have h3 := h3.ext x10
    have s1 := s1.ext x10
    have m1 := m1.ext x10
    have m2 := m2.ext x10
    have m3 := m3.ext x10
    have s2 := s2.ext x10
    have s3 := s3.ext x10
    go_wp2_with fail
    refine (cmp_eq_v s3.nv s4.nv (Nat.add_comm _ _)).mono ?_
    rintro e w11 ⟨rfl, q11⟩
    have x11 := q11.ext
    have hx := hx.trans x11
    have h1 := h1.ext x11
    have h2 := h2.ext x11
    have h3 := h3.ext x11
    have s1 := s1.ext x11
    have m1 := m1.ext x11
    have m2 := m2.ext x11
    have m3 := m3.ext x11
    have s2 := s2.ext x11
    have s3 := s3.ext x11
    have s4 := s4.ext x11
    go_wp2_with fail
    refine (mul_v h1 h2 (by omega) (by omega)).mono ?_
    rintro e w12 ⟨Am4, cm4, rfl, m4, x12⟩
    have hx := hx.trans x12
    have h1 := h1.ext x12
    have h2 := h2.ext x12
    have h3 := h3.ext x12
    have s1 := s1.ext x12
    have m1 := m1.ext x12
    have m2 := m2.ext x12
    have m3 := m3.ext x12
    have s2 := s2.ext x12
    have s3 := s3.ext x12
    have s4 := s4.ext x12
    go_wp2_with fail
    refine (mul_v h2 h1 (by omega) (by omega)).mono ?_
    rintro e w13 ⟨Am5, cm5, rfl, m5, x13⟩
    have hx := hx.trans x13
    have h1 := h1.ext x13
    have h2 := h2.ext x13
    have h3 := h3.ext x13
    have s1 := s1.ext x13
    have m1 := m1.ext x13
    have m2 := m2.ext x13
    have m3 := m3.ext x13
    have s2 := s2.ext x13
    have s3 := s3.ext x13
    have s4 := s4.ext x13
    have m4 := m4.ext x13
    go_wp2_with fail
    refine (cmp_eq_v m4.nv m5.nv (Nat.mul_comm _ _)).mono ?_
    rintro e w14 ⟨rfl, q14⟩
    have x14 := q14.ext
    have hx := hx.trans x14
    have h1 := h1.ext x14
    have h2 := h2.ext x14
    have h3 := h3.ext x14
    have s1 := s1.ext x14
    have m1 := m1.ext x14
    have m2 := m2.ext x14
    have m3 := m3.ext x14
    have s2 := s2.ext x14
    have s3 := s3.ext x14
    have s4 := s4.ext x14
    have m4 := m4.ext x14
    have m5 := m5.ext x14
    go_wp2_with fail
    refine (mul_v h2 h3 (by omega) (by omega)).mono ?_
    rintro e w15 ⟨Am6, cm6, rfl, m6, x15⟩
    have hx := hx.trans x15
    have h1 := h1.ext x15
    have h2 := h2.ext x15
    have h3 := h3.ext x15
    have s1 := s1.ext x15
    have m1 := m1.ext x15
    have m2 := m2.ext x15
    have m3 := m3.ext x15
    have s2 := s2.ext x15
    have s3 := s3.ext x15
    have s4 := s4.ext x15
    have m4 := m4.ext x15
    have m5 := m5.ext x15
    go_wp2_with fail
    refine (mul_v h1 m6.nv (by omega) (by omega)).mono ?_
    rintro e w16 ⟨Am7, cm7, rfl, m7, x16⟩
    have hx := hx.trans x16
    have h1 := h1.ext x16
    have h2 := h2.ext x16
    have h3 := h3.ext x16
    have s1 := s1.ext x16
    have m1 := m1.ext x16
    have m2 := m2.ext x16
    have m3 := m3.ext x16
    have s2 := s2.ext x16
    have s3 := s3.ext x16
    have s4 := s4.ext x16
    have m4 := m4.ext x16
    have m5 := m5.ext x16
    have m6 := m6.ext x16
    go_wp2_with fail
    refine (mul_v h1 h2 (by omega) (by omega)).mono ?_
    rintro e w17 ⟨Am8, cm8, rfl, m8, x17⟩
    have hx := hx.trans x17
    have h1 := h1.ext x17
    have h2 := h2.ext x17
    have h3 := h3.ext x17
    have s1 := s1.ext x17
    have m1 := m1.ext x17
    have m2 := m2.ext x17
    have m3 := m3.ext x17
    have s2 := s2.ext x17
    have s3 := s3.ext x17
    have s4 := s4.ext x17
    have m4 := m4.ext x17
    have m5 := m5.ext x17
    have m6 := m6.ext x17
    have m7 := m7.ext x17
    go_wp2_with fail
    refine (mul_v m8.nv h3 (by omega) (by omega)).mono ?_
    rintro e w18 ⟨Am9, cm9, rfl, m9, x18⟩
    have hx := hx.trans x18
    have h1 := h1.ext x18
    have h2 := h2.ext x18
    have h3 := h3.ext x18
    have s1 := s1.ext x18
    have m1 := m1.ext x18
    have m2 := m2.ext x18
    have m3 := m3.ext x18
    have s2 := s2.ext x18
    have s3 := s3.ext x18
    have s4 := s4.ext x18
    have m4 := m4.ext x18
    have m5 := m5.ext x18
    have m6 := m6.ext x18
    have m7 := m7.ext x18
    have m8 := m8.ext x18
    go_wp2_with fail
    refine (cmp_eq_v m7.nv m9.nv (Nat.mul_assoc _ _ _).symm).mono ?_
    rintro e w19 ⟨rfl, q19⟩
    have x19 := q19.ext
    have hx := hx.trans x19
    have h1 := h1.ext x19
    have h2 := h2.ext x19
    have h3 := h3.ext x19
    have s1 := s1.ext x19
    have m1 := m1.ext x19
    have m2 := m2.ext x19
    have m3 := m3.ext x19
    have s2 := s2.ext x19
    have s3 := s3.ext x19
    have s4 := s4.ext x19
    have m4 := m4.ext x19
    have m5 := m5.ext x19
    have m6 := m6.ext x19
    have m7 := m7.ext x19
    have m8 := m8.ext x19
    have m9 := m9.ext x19
    go_wp2_with fail
    refine (add_v h2 h3 (by omega) (by omega)).mono ?_
    rintro e w20 ⟨As5, cs5, rfl, s5, x20⟩
    have hx := hx.trans x20
    have h1 := h1.ext x20
    have h2 := h2.ext x20
    have h3 := h3.ext x20
    have s1 := s1.ext x20
    have m1 := m1.ext x20
    have m2 := m2.ext x20
    have m3 := m3.ext x20
    have s2 := s2.ext x20
    have s3 := s3.ext x20
    have s4 := s4.ext x20
    have m4 := m4.ext x20
    have m5 := m5.ext x20
    have m6 := m6.ext x20
    have m7 := m7.ext x20
    have m8 := m8.ext x20
    have m9 := m9.ext x20
    go_wp2_with fail
    refine (add_v h1 s5.nv (by omega) (by omega)).mono ?_
    rintro e w21 ⟨As6, cs6, rfl, s6, x21⟩
    have hx := hx.trans x21
    have h1 := h1.ext x21
    have h2 := h2.ext x21
    have h3 := h3.ext x21
    have s1 := s1.ext x21
    have m1 := m1.ext x21
    have m2 := m2.ext x21
    have m3 := m3.ext x21
    have s2 := s2.ext x21
    have s3 := s3.ext x21
    have s4 := s4.ext x21
    have m4 := m4.ext x21
    have m5 := m5.ext x21
    have m6 := m6.ext x21
    have m7 := m7.ext x21
    have m8 := m8.ext x21
    have m9 := m9.ext x21
    have s5 := s5.ext x21
    go_wp2_with fail
    refine (add_v h1 h2 (by omega) (by omega)).mono ?_
    rintro e w22 ⟨As7, cs7, rfl, s7, x22⟩
    have hx := hx.trans x22
    have h1 := h1.ext x22
    have h2 := h2.ext x22
    have h3 := h3.ext x22
    have s1 := s1.ext x22
    have m1 := m1.ext x22
    have m2 := m2.ext x22
    have m3 := m3.ext x22
    have s2 := s2.ext x22
    have s3 := s3.ext x22
    have s4 := s4.ext x22
    have m4 := m4.ext x22
    have m5 := m5.ext x22
    have m6 := m6.ext x22
    have m7 := m7.ext x22
    have m8 := m8.ext x22
    have m9 := m9.ext x22
    have s5 := s5.ext x22
    have s6 := s6.ext x22
    go_wp2_with fail
    refine (add_v s7.nv h3 (by omega) (by omega)).mono ?_
    rintro e w23 ⟨As8, cs8, rfl, s8, x23⟩
    have hx := hx.trans x23
    have h1 := h1.ext x23
    have h2 := h2.ext x23
    have h3 := h3.ext x23
    have s1 := s1.ext x23
    have m1 := m1.ext x23
    have m2 := m2.ext x23
    have m3 := m3.ext x23
    have s2 := s2.ext x23
    have s3 := s3.ext x23
    have s4 := s4.ext x23
    have m4 := m4.ext x23
    have m5 := m5.ext x23
    have m6 := m6.ext x23
    have m7 := m7.ext x23
    have m8 := m8.ext x23
    have m9 := m9.ext x23
    have s5 := s5.ext x23
    have s6 := s6.ext x23
    have s7 := s7.ext x23
    go_wp2_with fail
    refine (cmp_eq_v s6.nv s8.nv (Nat.add_assoc _ _ _).symm).mono ?_
    rintro e w24 ⟨rfl, q24⟩
    have x24 := q24.ext
    have hx := hx.trans x24
    have h1 := h1.ext x24
    have h2 := h2.ext x24
    have h3 := h3.ext x24
    have s1 := s1.ext x24
    have m1 := m1.ext x24
    have m2 := m2.ext x24
    have m3 := m3.ext x24
    have s2 := s2.ext x24
    have s3 := s3.ext x24
    have s4 := s4.ext x24
    have m4 := m4.ext x24
    have m5 := m5.ext x24
    have m6 := m6.ext x24
    have m7 := m7.ext x24
    have m8 := m8.ext x24
    have m9 := m9.ext x24
    have s5 := s5.ext x24
    have s6 := s6.ext x24
    have s7 := s7.ext x24
    have s8 := s8.ext x24
    go_wp2_with fail
    go_ret
    exact ⟨rfl, hx⟩
  · have hf' : (decide (L1 ≤ 8) && (decide (L2 ≤ 8) && decide (L3 ≤ 8))) = false := by simpa using hf
    have HF := Lib.hid hf'
    clear hf hf'
    go_enter Try.func4, Try.ntmps4
    go_wp2_with fail
    refine (awake1 _).mono ?_
    rintro e w1 ⟨rfl, x1⟩
    have hx := hx.trans x1
    go_wp2_with fail
    refine (few3 (by omega) (by omega) (by omega)).mono ?_
    rintro e w2 ⟨rfl, x2⟩
    have hx := hx.trans x2
    rw [HF.out]
    go_wp2_with fail
    refine (awake1 _).mono ?_
    rintro e w3 ⟨rfl, x3⟩
    have hx := hx.trans x3
    go_wp2_with fail
    go_ret
    exact ⟨rfl, hx⟩
end Go.Proofs.Ytjefndkhonpalaa
