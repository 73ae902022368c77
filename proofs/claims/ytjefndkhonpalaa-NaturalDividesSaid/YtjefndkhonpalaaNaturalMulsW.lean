/- The walk of NaturalMuls. -/
import Derived.Test.YtjefndkhonpalaaNatV
import Derived.Test.YtjefndkhonpalaaRefC
namespace Go.Proofs.Ytjefndkhonpalaa
open Go.RowKit

theorem rof_one {w : World} {n : Nat} (hn : n < 4294967296) :
    Calls Try.prog 14 #[.slice (some ⟨w.heap.size, 0, none⟩) 1 1] (w.alloc (.cells #[.int .u32 (n : Int)] 39)) (RetB w n) := by
  have hrow := Row.new w .u32 39 [n]
  have hnr : NR (w.alloc (.cells (nums .u32 [n]).toArray 39)) (some ⟨w.heap.size, 0, none⟩) 1 [n] :=
    ⟨by simpa using hrow.rd 1, by unfold Valid B32; simpa using hn, by simp, by omega⟩
  have hV : V [n] = n := by simp [V, val]
  refine (rof_any hnr (by simp)).mono ?_
  rw [hV]
  rintro e w' ⟨A, c, he, hb, hx⟩
  exact ⟨A, c, he, hb, (Ext.alloc w _).trans hx⟩
theorem bl_u32 {n : Nat} (h : n < 4294967296) : bl n ≤ 32 := digs_len_le (by omega) h

theorem naturalMuls_walk {w : World} {A1 A2 : Option Addr} {c1 c2 L1 L2 a b m k : Nat} (h1 : NV w A1 c1 L1 a) (h2 : NV w A2 c2 L2 b) (hm : m < 4294967296) (hk : k < 4294967296) :
    Calls Try.prog 5 #[.slice A1 L1 c1, .slice A2 L2 c2, .agg #[.int .u32 m, .int .u32 k]] w fun e w' => e = .returned (.bool true) ∧ Ext w w' := by
  have l1 := h1.le
  have l2 := h2.le
  have p1 := h1.cap
  have p2 := h2.cap
  by_cases hf : (decide (L1 ≤ 12) && decide (L2 ≤ 12)) = true
  · have k1 : L1 ≤ 12 ∧ L2 ≤ 12 := by simp at hf; omega
    have s1 := h1.dl
    have s2 := h2.dl
    have b1 := h1.bl
    have b2 := h2.bl
    have b3 := bl_mul a m
    have b4 := bl_add (a * m) k
    have b5 := bl_u32 hm
    have b6 := bl_u32 hk
    have b7 := bl_mul a b
    have HF := Lib.hid hf
    clear hf
    go_enter Try.func5, Try.ntmps5
    go_wp2_with fail
    go_quiet (fail)
    obtain ⟨w0, hw0⟩ : ∃ w0 : World, w0 = (w.alloc (.cells #[.int .u32 (m : Int), .int .u32 (k : Int)] 40)).drewN nq := ⟨_, rfl⟩
    rw [← hw0]
    have hx : Ext w w0 := by rw [hw0]; exact (Ext.alloc w _).trans (Qt.ext ⟨nq, rfl⟩)
    clear hw0
    have h1 := h1.ext hx
    have h2 := h2.ext hx
    go_wp2_with fail
    refine (awake1 _).mono ?_
    rintro e w1 ⟨rfl, x1⟩
    have hx := hx.trans x1
    have h1 := h1.ext x1
    have h2 := h2.ext x1
    go_wp2_with fail
    refine (few2 (by omega) (by omega)).mono ?_
    rintro e w2 ⟨rfl, x2⟩
    have hx := hx.trans x2
    have h1 := h1.ext x2
    have h2 := h2.ext x2
    rw [HF.out]
    go_wp2_with fail
    refine (rof_v h1 (by omega)).mono ?_
    rintro e w3 ⟨Ag1, cg1, rfl, g1, x3⟩
    have hx := hx.trans x3
    have h1 := h1.ext x3
    have h2 := h2.ext x3
    go_wp2_with fail
    refine (rof_v h2 (by omega)).mono ?_
    rintro e w4 ⟨Ag2, cg2, rfl, g2, x4⟩
    have hx := hx.trans x4
    have h1 := h1.ext x4
    have h2 := h2.ext x4
    have g1 := g1.ext x4
    go_wp2_with fail
    refine (rof_one hm).mono ?_
    rintro e w5 ⟨Agm, cgm, rfl, gm, x5⟩
    have hx := hx.trans x5
    have h1 := h1.ext x5
    have h2 := h2.ext x5
    have g1 := g1.ext x5
    have g2 := g2.ext x5
    go_wp2_with fail
    refine (rmul_any g1 gm (by omega) (by omega)).mono ?_
    rintro e w6 ⟨Agp, cgp, rfl, gp, x6⟩
    have hx := hx.trans x6
    have h1 := h1.ext x6
    have h2 := h2.ext x6
    have g1 := g1.ext x6
    have g2 := g2.ext x6
    have gm := gm.ext x6
    go_wp2_with fail
    refine (rof_one hk).mono ?_
    rintro e w7 ⟨Agk, cgk, rfl, gk, x7⟩
    have hx := hx.trans x7
    have h1 := h1.ext x7
    have h2 := h2.ext x7
    have g1 := g1.ext x7
    have g2 := g2.ext x7
    have gm := gm.ext x7
    have gp := gp.ext x7
    go_wp2_with fail
    refine (radd_any gp gk (by omega) (by omega)).mono ?_
    rintro e w8 ⟨Agz, cgz, rfl, gz, x8⟩
    have hx := hx.trans x8
    have h1 := h1.ext x8
    have h2 := h2.ext x8
    have g1 := g1.ext x8
    have g2 := g2.ext x8
    have gm := gm.ext x8
    have gp := gp.ext x8
    have gk := gk.ext x8
    go_wp2_with fail
    refine (mul_v h1 h2 (by omega) (by omega)).mono ?_
    rintro e w9 ⟨As1, cs1, rfl, s1, x9⟩
    have hx := hx.trans x9
    have h1 := h1.ext x9
    have h2 := h2.ext x9
    have g1 := g1.ext x9
    have g2 := g2.ext x9
    have gm := gm.ext x9
    have gp := gp.ext x9
    have gk := gk.ext x9
    have gz := gz.ext x9
    go_wp2_with fail
    refine (rmul_any g1 g2 (by omega) (by omega)).mono ?_
    rintro e w10 ⟨Agq, cgq, rfl, gq, x10⟩
    have hx := hx.trans x10
    have h1 := h1.ext x10
    have h2 := h2.ext x10
    have g1 := g1.ext x10
    have g2 := g2.ext x10
    have gm := gm.ext x10
    have gp := gp.ext x10
    have gk := gk.ext x10
    have gz := gz.ext x10
    have s1 := s1.ext x10
    go_wp2_with fail
    refine (is_yes s1 gq rfl (by omega)).mono ?_
    rintro e w11 ⟨rfl, x11⟩
    have hx := hx.trans x11
    have h1 := h1.ext x11
    have h2 := h2.ext x11
    have g1 := g1.ext x11
    have g2 := g2.ext x11
    have gm := gm.ext x11
    have gp := gp.ext x11
    have gk := gk.ext x11
    have gz := gz.ext x11
    have s1 := s1.ext x11
    have gq := gq.ext x11
    go_wp2_with fail
    refine (mulAdd_v h1 hm hk (by omega)).mono ?_
    rintro e w12 ⟨As2, cs2, rfl, s2, x12⟩
    have hx := hx.trans x12
    have h1 := h1.ext x12
    have h2 := h2.ext x12
    have g1 := g1.ext x12
    have g2 := g2.ext x12
    have gm := gm.ext x12
    have gp := gp.ext x12
    have gk := gk.ext x12
    have gz := gz.ext x12
    have s1 := s1.ext x12
    have gq := gq.ext x12
    go_wp2_with fail
    refine (is_yes s2 gz rfl (by omega)).mono ?_
    rintro e w13 ⟨rfl, x13⟩
    have hx := hx.trans x13
    have h1 := h1.ext x13
    have h2 := h2.ext x13
    have g1 := g1.ext x13
    have g2 := g2.ext x13
    have gm := gm.ext x13
    have gp := gp.ext x13
    have gk := gk.ext x13
    have gz := gz.ext x13
    have s1 := s1.ext x13
    have gq := gq.ext x13
    have s2 := s2.ext x13
    go_wp2_with fail
    go_ret
    exact ⟨rfl, hx⟩
  · have hf' : (decide (L1 ≤ 12) && decide (L2 ≤ 12)) = false := by simpa using hf
    have HF := Lib.hid hf'
    clear hf hf'
    go_enter Try.func5, Try.ntmps5
    go_wp2_with fail
    go_quiet (fail)
    obtain ⟨w0, hw0⟩ : ∃ w0 : World, w0 = (w.alloc (.cells #[.int .u32 (m : Int), .int .u32 (k : Int)] 40)).drewN nq := ⟨_, rfl⟩
    rw [← hw0]
    have hx : Ext w w0 := by rw [hw0]; exact (Ext.alloc w _).trans (Qt.ext ⟨nq, rfl⟩)
    clear hw0
    go_wp2_with fail
    refine (awake1 _).mono ?_
    rintro e w1 ⟨rfl, x1⟩
    have hx := hx.trans x1
    go_wp2_with fail
    refine (few2 (by omega) (by omega)).mono ?_
    rintro e w2 ⟨rfl, x2⟩
    have hx := hx.trans x2
    rw [HF.out]
    go_wp2_with fail
    refine (awake1 _).mono ?_
    rintro e w3 ⟨rfl, x3⟩
    have hx := hx.trans x3
    go_wp2_with fail
    go_ret
    exact ⟨rfl, hx⟩
end Go.Proofs.Ytjefndkhonpalaa
