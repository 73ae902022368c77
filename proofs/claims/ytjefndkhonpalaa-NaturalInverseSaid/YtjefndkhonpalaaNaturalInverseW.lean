/- The walk of NaturalInverse. -/
import Derived.Test.YtjefndkhonpalaaNatF
namespace Go.Proofs.Ytjefndkhonpalaa
open Go.RowKit

theorem dl_shl (a m : Nat) (hm : m < 256) : dl (a * 2 ^ m) ≤ dl a + 8 := by
  apply dl_le
  have h1 := lt_pow_len B32_two a
  have h2 : 2 ^ m ≤ 2 ^ (32 * 8) := Nat.pow_le_pow_right (by omega) (by omega)
  rw [Nat.pow_add]
  have h3 : B32 ^ 8 = 2 ^ (32 * 8) := by rw [Nat.pow_mul]; rfl
  rw [h3]
  exact Nat.lt_of_lt_of_le (Nat.mul_lt_mul_of_pos_right h1 (Nat.two_pow_pos m)) (Nat.mul_le_mul_left _ h2)

theorem naturalInverse_walk {w : World} {A1 A2 : Option Addr} {c1 c2 L1 L2 a b d k : Nat} (h1 : NV w A1 c1 L1 a) (h2 : NV w A2 c2 L2 b) (hd : d < 4294967296) (_hk : k < 4294967296) :
    Calls Try.prog 10 #[.slice A1 L1 c1, .slice A2 L2 c2, .agg #[.int .u32 d, .int .u32 k]] w fun e w' => e = .returned (.bool true) ∧ Ext w w' := by
  have l1 := h1.le
  have l2 := h2.le
  have p1 := h1.cap
  have p2 := h2.cap
  by_cases hf : (decide (L1 ≤ 20) && decide (L2 ≤ 20)) = true
  · have k1 : L1 ≤ 20 ∧ L2 ≤ 20 := by simp at hf; omega
    have s1 := h1.dl
    have s2 := h2.dl
    have s3 := dl_add a b
    have hm : k % 256 < 256 := Nat.mod_lt _ (by omega)
    have s4 := dl_shl a (k % 256) hm
    have e1 : a + b - b = a := Nat.add_sub_cancel a b
    have e2 : a * 2 ^ (k % 256) / 2 ^ (k % 256) = a := Nat.mul_div_cancel _ (Nat.two_pow_pos _)
    have HSB : Hid (∀ (w : World) A c, NO w 0 A c (a + b) → NV w A2 c2 L2 b → Calls Try.prog 16 #[.slice A (digs B32 (a + b)).length c, .slice A2 L2 c2] w (RetNT w a)) := fun w A c h h2 => by
      have := sub_yes_v h.nv h2 (by omega) (Nat.le_add_left _ _)
      rwa [e1] at this
    have hL : Hid (∀ (w : World), NV w A1 c1 L1 a → Calls Try.prog 31 #[.slice A1 L1 c1, .int .i64 ((k : Int) % 256)] w (RetN w (a * 2 ^ (k % 256)))) := fun w h => shl_v h (by omega) (by omega) (by omega)
    have hR : Hid (∀ (w : World) A c, NO w 0 A c (a * 2 ^ (k % 256)) → Calls Try.prog 33 #[.slice A (digs B32 (a * 2 ^ (k % 256))).length c, .int .i64 ((k : Int) % 256)] w (RetN w a)) := fun w A c h => by
      have := shr_v (n := (k : Int) % 256) (m := k % 256) h.nv (by omega) (by omega) (by omega)
      rwa [e2] at this
    clear e1 e2
    have HF := Lib.hid hf
    clear hf
    by_cases hd0 : d = 0
    · have HD : Hid (∀ w : World, Calls Try.prog 29 #[.slice A1 L1 c1, .int .u32 d] w fun e w' => e = .returned (.tuple #[.slice none 0 0, .int .u32 0, .bool false]) ∧ w = w') := fun w => by subst hd0; exact divSmall_zero
      have hdz : ((d : Int) == 0) = true := by simp [hd0]
      clear hd0
      go_enter Try.func10, Try.ntmps10
      go_wp2_with fail
      go_quiet (fail)
      obtain ⟨w0, hw0⟩ : ∃ w0 : World, w0 = (w.alloc (.cells #[.int .u32 (d : Int), .int .u32 (k : Int)] 40)).drewN nq := ⟨_, rfl⟩
      rw [← hw0]
      have hx : Ext w w0 := by rw [hw0]; exact (Ext.alloc w _).trans (Qt.ext ⟨nq, rfl⟩)
      clear hw0
      have h1 := h1.ext hx
      have h2 := h2.ext hx
      go_wp2_with fail
      refine (awake1 _).mono ?_
      rintro e w1 ⟨rfl, x1⟩
      have hx := hx.trans x1
      have h1 := h1.ext x1
      have h2 := h2.ext x1
      go_wp2_with fail
      refine (few2 (by omega) (by omega)).mono ?_
      rintro e w2 ⟨rfl, x2⟩
      have hx := hx.trans x2
      have h1 := h1.ext x2
      have h2 := h2.ext x2
      rw [HF.out]
      go_wp2_with fail
      refine (add_v h1 h2 (by omega) (by omega)).mono ?_
      rintro e w3 ⟨As1, cs1, rfl, s1, x3⟩
      have hx := hx.trans x3
      have h1 := h1.ext x3
      have h2 := h2.ext x3
      go_wp2_with fail
      refine (HSB.out _ _ _ (Own.mono s1 (Nat.zero_le _)) h2).mono ?_
      rintro e w4 ⟨As2, cs2, rfl, s2, x4⟩
      have hx := hx.trans x4
      have h1 := h1.ext x4
      have h2 := h2.ext x4
      have s1 := s1.ext x4
      go_wp2_with fail
      refine (hL.out _ h1).mono ?_
      rintro e w5 ⟨As3, cs3, rfl, s3, x5⟩
      have hx := hx.trans x5
      have h1 := h1.ext x5
      have h2 := h2.ext x5
      have s1 := s1.ext x5
      have s2 := s2.ext x5
      go_wp2_with fail
      refine (hR.out _ _ _ (Own.mono s3 (Nat.zero_le _))).mono ?_
      rintro e w6 ⟨As4, cs4, rfl, s4, x6⟩
      have hx := hx.trans x6
      have h1 := h1.ext x6
      have h2 := h2.ext x6
      have s1 := s1.ext x6
      have s2 := s2.ext x6
      have s3 := s3.ext x6
      go_wp2_with fail
      refine (cmp_eq_v s2.nv h1 rfl).mono ?_
      rintro e w7 ⟨rfl, q7⟩
      have x7 := q7.ext
      have hx := hx.trans x7
      have h1 := h1.ext x7
      have h2 := h2.ext x7
      have s1 := s1.ext x7
      have s2 := s2.ext x7
      have s3 := s3.ext x7
      have s4 := s4.ext x7
      go_wp2_with fail
      refine (cmp_eq_v s4.nv h1 rfl).mono ?_
      rintro e w8 ⟨rfl, q8⟩
      have x8 := q8.ext
      have hx := hx.trans x8
      have h1 := h1.ext x8
      have h2 := h2.ext x8
      have s1 := s1.ext x8
      have s2 := s2.ext x8
      have s3 := s3.ext x8
      have s4 := s4.ext x8
      go_wp2_with fail
      refine (HD.out _).mono ?_
      rintro e w' ⟨rfl, rfl⟩
      go_wp2_with fail
      go_ret
      exact ⟨rfl, hx⟩

    · have hd1 : 0 < d := by omega
      have hdz : ((d : Int) == 0) = false := by simp; omega
      have hr : a % d < d := Nat.mod_lt _ hd1
      have hrl : decide (((a % d : Nat) : Int) < (d : Int)) = true := by simp; omega
      have s5 : dl (a / d) ≤ dl a := dl_mono (Nat.div_le_self _ _)
      have e3 : a / d * d + a % d = a := by rw [Nat.mul_comm]; exact Nat.div_add_mod a d
      have HE3 := Lib.hid e3
      clear hd0 e3
      have HMA : Hid (∀ (w : World) A c, NO w 0 A c (a / d) → Calls Try.prog 26 #[.slice A (digs B32 (a / d)).length c, .int .u32 d, .int .u32 ((a % d : Nat) : Int)] w (RetN w (a / d * d + a % d))) := fun w A c h => mulAdd_v h.nv hd (by omega) (by omega)
      have HDS : Hid (∀ (w : World), NV w A1 c1 L1 a → Calls Try.prog 29 #[.slice A1 L1 c1, .int .u32 d] w (RetDS w (a / d) (a % d))) := fun w h => divSmall_v h hd1 hd (by omega)
      generalize hqq : a / d = q at *
      generalize hrr : a % d = r at *
      clear hqq hrr
      go_enter Try.func10, Try.ntmps10
      go_wp2_with fail
      go_quiet (fail)
      obtain ⟨w0, hw0⟩ : ∃ w0 : World, w0 = (w.alloc (.cells #[.int .u32 (d : Int), .int .u32 (k : Int)] 40)).drewN nq := ⟨_, rfl⟩
      rw [← hw0]
      have hx : Ext w w0 := by rw [hw0]; exact (Ext.alloc w _).trans (Qt.ext ⟨nq, rfl⟩)
      clear hw0
      have h1 := h1.ext hx
      have h2 := h2.ext hx
      go_wp2_with fail
      refine (awake1 _).mono ?_
      rintro e w1 ⟨rfl, x1⟩
      have hx := hx.trans x1
      have h1 := h1.ext x1
      have h2 := h2.ext x1
      go_wp2_with fail
      refine (few2 (by omega) (by omega)).mono ?_
      rintro e w2 ⟨rfl, x2⟩
      have hx := hx.trans x2
      have h1 := h1.ext x2
      have h2 := h2.ext x2
      rw [HF.out]
      go_wp2_with fail
      refine (add_v h1 h2 (by omega) (by omega)).mono ?_
      rintro e w3 ⟨As1, cs1, rfl, s1, x3⟩
      have hx := hx.trans x3
      have h1 := h1.ext x3
      have h2 := h2.ext x3
      go_wp2_with fail
      refine (HSB.out _ _ _ (Own.mono s1 (Nat.zero_le _)) h2).mono ?_
      rintro e w4 ⟨As2, cs2, rfl, s2, x4⟩
      have hx := hx.trans x4
      have h1 := h1.ext x4
      have h2 := h2.ext x4
      have s1 := s1.ext x4
      go_wp2_with fail
      refine (hL.out _ h1).mono ?_
      rintro e w5 ⟨As3, cs3, rfl, s3, x5⟩
      have hx := hx.trans x5
      have h1 := h1.ext x5
      have h2 := h2.ext x5
      have s1 := s1.ext x5
      have s2 := s2.ext x5
      go_wp2_with fail
      refine (hR.out _ _ _ (Own.mono s3 (Nat.zero_le _))).mono ?_
      rintro e w6 ⟨As4, cs4, rfl, s4, x6⟩
      have hx := hx.trans x6
      have h1 := h1.ext x6
      have h2 := h2.ext x6
      have s1 := s1.ext x6
      have s2 := s2.ext x6
      have s3 := s3.ext x6
      go_wp2_with fail
      refine (cmp_eq_v s2.nv h1 rfl).mono ?_
      rintro e w7 ⟨rfl, q7⟩
      have x7 := q7.ext
      have hx := hx.trans x7
      have h1 := h1.ext x7
      have h2 := h2.ext x7
      have s1 := s1.ext x7
      have s2 := s2.ext x7
      have s3 := s3.ext x7
      have s4 := s4.ext x7
      go_wp2_with fail
      refine (cmp_eq_v s4.nv h1 rfl).mono ?_
      rintro e w8 ⟨rfl, q8⟩
      have x8 := q8.ext
      have hx := hx.trans x8
      have h1 := h1.ext x8
      have h2 := h2.ext x8
      have s1 := s1.ext x8
      have s2 := s2.ext x8
      have s3 := s3.ext x8
      have s4 := s4.ext x8
      go_wp2_with fail
      refine (HDS.out _ h1).mono ?_
      rintro e w9 ⟨As5, cs5, rfl, s5, x9⟩
      have hx := hx.trans x9
      have h1 := h1.ext x9
      have h2 := h2.ext x9
      have s1 := s1.ext x9
      have s2 := s2.ext x9
      have s3 := s3.ext x9
      have s4 := s4.ext x9
      go_wp2_with fail
      refine (HMA.out _ _ _ (Own.mono s5 (Nat.zero_le _))).mono ?_
      rintro e w10 ⟨As6, cs6, rfl, s6, x10⟩
      have hx := hx.trans x10
      have h1 := h1.ext x10
      have h2 := h2.ext x10
      have s1 := s1.ext x10
      have s2 := s2.ext x10
      have s3 := s3.ext x10
      have s4 := s4.ext x10
      have s5 := s5.ext x10
      go_wp2_with fail
      refine (cmp_eq_v s6.nv h1 HE3.out).mono ?_
      rintro e w11 ⟨rfl, q11⟩
      have x11 := q11.ext
      have hx := hx.trans x11
      have h1 := h1.ext x11
      have h2 := h2.ext x11
      have s1 := s1.ext x11
      have s2 := s2.ext x11
      have s3 := s3.ext x11
      have s4 := s4.ext x11
      have s5 := s5.ext x11
      have s6 := s6.ext x11
      go_wp2_with fail
      go_ret
      exact ⟨rfl, hx⟩

  · have hf' : (decide (L1 ≤ 20) && decide (L2 ≤ 20)) = false := by simpa using hf
    have HF := Lib.hid hf'
    clear hf hf'
    go_enter Try.func10, Try.ntmps10
    go_wp2_with fail
    go_quiet (fail)
    obtain ⟨w0, hw0⟩ : ∃ w0 : World, w0 = (w.alloc (.cells #[.int .u32 (d : Int), .int .u32 (k : Int)] 40)).drewN nq := ⟨_, rfl⟩
    rw [← hw0]
    have hx : Ext w w0 := by rw [hw0]; exact (Ext.alloc w _).trans (Qt.ext ⟨nq, rfl⟩)
    clear hw0
    go_wp2_with fail
    refine (awake1 _).mono ?_
    rintro e w1 ⟨rfl, x1⟩
    have hx := hx.trans x1
    go_wp2_with fail
    refine (few2 (by omega) (by omega)).mono ?_
    rintro e w2 ⟨rfl, x2⟩
    have hx := hx.trans x2
    rw [HF.out]
    go_wp2_with fail
    refine (awake1 _).mono ?_
    rintro e w3 ⟨rfl, x3⟩
    have hx := hx.trans x3
    go_wp2_with fail
    go_ret
    exact ⟨rfl, hx⟩
end Go.Proofs.Ytjefndkhonpalaa
