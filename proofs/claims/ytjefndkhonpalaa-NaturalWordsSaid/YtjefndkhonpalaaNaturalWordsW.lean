/- The walk of NaturalWords. -/
import Derived.Test.YtjefndkhonpalaaNatV
namespace Go.Proofs.Ytjefndkhonpalaa
open Go.RowKit

theorem rof_two {w : World} {n : Nat} (hn : n < 18446744073709551616) :
    Calls Try.prog 14 #[.slice (some ⟨w.heap.size, 0, none⟩) 2 2] (w.alloc (.cells #[.int .u32 ((n : Int) % 4294967296), .int .u32 ((n : Int) / 4294967296)] 39)) (RetB w n) := by
  have e : (nums .u32 [n % 4294967296, n / 4294967296]).toArray = #[Value.int .u32 ((n : Int) % 4294967296), Value.int .u32 ((n : Int) / 4294967296)] := by simp [nums]
  have hrow := Row.new w .u32 39 [n % 4294967296, n / 4294967296]
  have hnr : NR (w.alloc (.cells (nums .u32 [n % 4294967296, n / 4294967296]).toArray 39)) (some ⟨w.heap.size, 0, none⟩) 2 [n % 4294967296, n / 4294967296] :=
    ⟨by simpa using hrow.rd 2, by unfold Valid B32; simp; omega, by simp, by omega⟩
  rw [e] at hnr
  refine (rof_any hnr (by simp)).mono ?_
  rw [V_two]
  rintro e w' ⟨A, c, he, hb, hx⟩
  exact ⟨A, c, he, hb, (Ext.alloc w _).trans hx⟩
theorem bl_le {n k : Nat} (h : n < 2 ^ k) : bl n ≤ k := digs_len_le (by omega) h
theorem lt_bl {n k : Nat} (h : 2 ^ k ≤ n) : k < bl n := by
  rcases Nat.lt_or_ge k (bl n) with h1 | h1
  · exact h1
  · have h2 := lt_pow_len (B := 2) (by omega) n
    have h3 : 2 ^ (digs 2 n).length ≤ 2 ^ k := Nat.pow_le_pow_right (by omega) h1
    omega

theorem naturalWords_walk {w : World} {n : Nat} {A : Option Addr} {c L a : Nat} (hn : n < 18446744073709551616) (h1 : NV w A c L a) :
    Calls Try.prog 6 #[.int .u64 n, .slice A L c] w fun e w' => e = .returned (.bool true) ∧ Ext w w' := by
  have l1 := h1.le
  have p1 := h1.cap
  have hx := Ext.refl w
  have HO : Hid (∀ w, Calls Try.prog 28 #[.int .u64 n] w (RetN w n)) := fun w => of_any n hn
  have HO2 : Hid (∀ w, Calls Try.prog 14 #[.slice (some ⟨w.heap.size, 0, none⟩) 2 2] (w.alloc (.cells #[.int .u32 ((n : Int) % 4294967296), .int .u32 ((n : Int) / 4294967296)] 39)) (RetB w n)) := fun w => rof_two hn
  have HU : Hid (∀ w A c, NO w 0 A c n → Calls Try.prog 27 #[.slice A (digs B32 n).length c] w fun e w' => e = .returned (.tuple #[.int .u64 n, .bool true]) ∧ Qt w w') := fun w A c h => uint64_yes_v h.nv hn
  have bn : bl n ≤ 64 := bl_le hn
  by_cases hf : decide (L ≤ 20) = true
  · have k1 : L ≤ 20 := by simpa using hf
    have b1 := h1.bl
    have HF := Lib.hid hf
    clear hf
    rcases Nat.lt_or_ge a 18446744073709551616 with ha | ha
    · have hlen : decide (((digs 2 a).length : Int) ≤ 64) = true := by
        have : (digs 2 a).length ≤ 64 := bl_le ha
        simp; omega
      have HO3 : Hid (∀ w, Calls Try.prog 28 #[.int .u64 a] w (RetN w a)) := fun w => of_any a ha
      have HU1 : Hid (∀ w, NV w A c L a → Calls Try.prog 27 #[.slice A L c] w fun e w' => e = .returned (.tuple #[.int .u64 a, .bool true]) ∧ Qt w w') := fun w h => uint64_yes_v h ha
      clear ha
      go_enter Try.func6, Try.ntmps6
      go_wp2_with fail
      refine (awake1 _).mono ?_
      rintro e w1 ⟨rfl, x1⟩
      have hx := hx.trans x1
      have h1 := h1.ext x1
      go_wp2_with fail
      refine (few1 (by omega)).mono ?_
      rintro e w2 ⟨rfl, x2⟩
      have hx := hx.trans x2
      have h1 := h1.ext x2
      rw [HF.out]
      go_wp2_with fail
      refine (HO.out _).mono ?_
      rintro e w3 ⟨As1, cs1, rfl, s1, x3⟩
      have hx := hx.trans x3
      have h1 := h1.ext x3
      go_wp2_with fail
      refine (HU.out _ _ _ (Own.mono s1 (Nat.zero_le _))).mono ?_
      rintro e w4 ⟨rfl, q4⟩
      have x4 := q4.ext
      have hx := hx.trans x4
      have h1 := h1.ext x4
      have s1 := s1.ext x4
      go_wp2_with fail
      refine (HU1.out _ h1).mono ?_
      rintro e w5 ⟨rfl, q5⟩
      have x5 := q5.ext
      have hx := hx.trans x5
      have h1 := h1.ext x5
      have s1 := s1.ext x5
      go_wp2_with fail
      refine (rof_v h1 (by omega)).mono ?_
      rintro e w6 ⟨Ag1, cg1, rfl, g1, x6⟩
      have hx := hx.trans x6
      have h1 := h1.ext x6
      have s1 := s1.ext x6
      go_wp2_with fail
      refine (HO.out _).mono ?_
      rintro e w7 ⟨As2, cs2, rfl, s2, x7⟩
      have hx := hx.trans x7
      have h1 := h1.ext x7
      have s1 := s1.ext x7
      have g1 := g1.ext x7
      go_wp2_with fail
      refine (HO2.out _).mono ?_
      rintro e w8 ⟨Ag2, cg2, rfl, g2, x8⟩
      have hx := hx.trans x8
      have h1 := h1.ext x8
      have s1 := s1.ext x8
      have g1 := g1.ext x8
      have s2 := s2.ext x8
      go_wp2_with fail
      refine (is_yes s2 g2 rfl (by omega)).mono ?_
      rintro e w9 ⟨rfl, x9⟩
      have hx := hx.trans x9
      have h1 := h1.ext x9
      have s1 := s1.ext x9
      have g1 := g1.ext x9
      have s2 := s2.ext x9
      have g2 := g2.ext x9
      go_wp2_with fail
      refine (HO3.out _).mono ?_
      rintro e w10 ⟨As3, cs3, rfl, s3, x10⟩
      have hx := hx.trans x10
      have h1 := h1.ext x10
      have s1 := s1.ext x10
      have g1 := g1.ext x10
      have s2 := s2.ext x10
      have g2 := g2.ext x10
      go_wp2_with fail
      refine (is_yes s3 g1 rfl (by omega)).mono ?_
      rintro e w11 ⟨rfl, x11⟩
      have hx := hx.trans x11
      have h1 := h1.ext x11
      have s1 := s1.ext x11
      have g1 := g1.ext x11
      have s2 := s2.ext x11
      have g2 := g2.ext x11
      have s3 := s3.ext x11
      go_wp2_with fail
      go_ret
      exact ⟨rfl, hx⟩
    · have hlen : decide (((digs 2 a).length : Int) ≤ 64) = false := by
        have : 64 < (digs 2 a).length := lt_bl ha
        simp; omega
      have HU1 : Hid (∀ w, NV w A c L a → Calls Try.prog 27 #[.slice A L c] w fun e w' => e = .returned (.tuple #[.int .u64 0, .bool false]) ∧ Qt w w') := fun w h => uint64_no_v h ha
      clear ha
      go_enter Try.func6, Try.ntmps6
      go_wp2_with fail
      refine (awake1 _).mono ?_
      rintro e w1 ⟨rfl, x1⟩
      have hx := hx.trans x1
      have h1 := h1.ext x1
      go_wp2_with fail
      refine (few1 (by omega)).mono ?_
      rintro e w2 ⟨rfl, x2⟩
      have hx := hx.trans x2
      have h1 := h1.ext x2
      rw [HF.out]
      go_wp2_with fail
      refine (HO.out _).mono ?_
      rintro e w3 ⟨As1, cs1, rfl, s1, x3⟩
      have hx := hx.trans x3
      have h1 := h1.ext x3
      go_wp2_with fail
      refine (HU.out _ _ _ (Own.mono s1 (Nat.zero_le _))).mono ?_
      rintro e w4 ⟨rfl, q4⟩
      have x4 := q4.ext
      have hx := hx.trans x4
      have h1 := h1.ext x4
      have s1 := s1.ext x4
      go_wp2_with fail
      refine (HU1.out _ h1).mono ?_
      rintro e w5 ⟨rfl, q5⟩
      have x5 := q5.ext
      have hx := hx.trans x5
      have h1 := h1.ext x5
      have s1 := s1.ext x5
      go_wp2_with fail
      refine (rof_v h1 (by omega)).mono ?_
      rintro e w6 ⟨Ag1, cg1, rfl, g1, x6⟩
      have hx := hx.trans x6
      have h1 := h1.ext x6
      have s1 := s1.ext x6
      go_wp2_with fail
      refine (HO.out _).mono ?_
      rintro e w7 ⟨As2, cs2, rfl, s2, x7⟩
      have hx := hx.trans x7
      have h1 := h1.ext x7
      have s1 := s1.ext x7
      have g1 := g1.ext x7
      go_wp2_with fail
      refine (HO2.out _).mono ?_
      rintro e w8 ⟨Ag2, cg2, rfl, g2, x8⟩
      have hx := hx.trans x8
      have h1 := h1.ext x8
      have s1 := s1.ext x8
      have g1 := g1.ext x8
      have s2 := s2.ext x8
      go_wp2_with fail
      refine (is_yes s2 g2 rfl (by omega)).mono ?_
      rintro e w9 ⟨rfl, x9⟩
      have hx := hx.trans x9
      have h1 := h1.ext x9
      have s1 := s1.ext x9
      have g1 := g1.ext x9
      have s2 := s2.ext x9
      have g2 := g2.ext x9
      go_wp2_with fail
      go_ret
      exact ⟨rfl, hx⟩
  · have hf' : decide (L ≤ 20) = false := by simpa using hf
    have HF := Lib.hid hf'
    clear hf hf'
    go_enter Try.func6, Try.ntmps6
    go_wp2_with fail
    refine (awake1 _).mono ?_
    rintro e w1 ⟨rfl, x1⟩
    have hx := hx.trans x1
    go_wp2_with fail
    refine (few1 (by omega)).mono ?_
    rintro e w2 ⟨rfl, x2⟩
    have hx := hx.trans x2
    rw [HF.out]
    go_wp2_with fail
    refine (awake1 _).mono ?_
    rintro e w3 ⟨rfl, x3⟩
    have hx := hx.trans x3
    go_wp2_with fail
    go_ret
    exact ⟨rfl, hx⟩
end Go.Proofs.Ytjefndkhonpalaa
