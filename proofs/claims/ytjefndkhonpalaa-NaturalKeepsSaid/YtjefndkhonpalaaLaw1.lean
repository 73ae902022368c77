/- Statements about layer 1 (natural numbers), first part: the law's own helpers. -/
import Derived.Test.YtjefndkhonpalaaRefB
import Derived.Test.YtjefndkhonpalaaNatC
namespace Go.Proofs.Ytjefndkhonpalaa
open Go.RowKit

theorem digs_lit {ds : List Nat} {n : Nat} (hv : Valid B32 ds) (hl : ds.getLast? ≠ some 0) (hn : val B32 ds = n) : digs B32 n = ds := by
  rw [← hn]; exact digs_of_val B32_two hv hl
theorem dl_lit {ds : List Nat} {n : Nat} (hv : Valid B32 ds) (hl : ds.getLast? ≠ some 0) (hn : val B32 ds = n) : dl n = ds.length := by
  unfold dl; rw [digs_lit hv hl hn]

theorem awake1 (w : World) : Calls Try.prog 12 #[] w fun e w' => e = .returned (.bool true) ∧ Ext w w' := by
  have d1 : digs B32 4294967296 = [0, 1] := digs_lit (by unfold Valid B32; simp) (by simp) (by simp [val, B32])
  have d2 : digs B32 3 = [3] := digs_lit (by unfold Valid B32; simp) (by simp) (by simp [val])
  have d3 : digs B32 12884901888 = [0, 3] := digs_lit (by unfold Valid B32; simp) (by simp) (by simp [val, B32])
  have c1 := of_any (w := w) 4294967296 (by omega)
  have HC1 := Lib.hid c1
  have HC2 : Hid (∀ w, Calls Try.prog 28 #[.int .u64 (3 : Nat)] w (RetN w 3)) := fun w => of_any 3 (by omega)
  have HC3 : Hid (∀ (w : World) A1 c1 A2 c2, NO w 0 A1 c1 4294967296 → NO w 0 A2 c2 3 → Calls Try.prog 24 #[.slice A1 2 c1, .slice A2 1 c2] w (RetN w 12884901888)) := by
    intro w A1 c1 A2 c2 h1 h2
    have n1 := NO.nr h1
    have n2 := NO.nr h2
    have v1 : V (digs B32 4294967296) = 4294967296 := val_digs B32_two _
    have v2 : V (digs B32 3) = 3 := val_digs B32_two _
    have := mul_any n1 n2 (by rw [v1, v2]; unfold dl; rw [d1, d2]; simp) (by rw [v1, v2]; unfold dl; rw [d1, d2]; simp)
    rw [v1, v2, d1, d2] at this
    exact this
  have HD1 := Lib.hid d1
  have HD2 := Lib.hid d2
  have HD3 := Lib.hid d3
  clear c1 d1 d2 d3
  go_enter Try.func12, Try.ntmps12
  go_wp2_with fail
  refine HC1.out.mono ?_
  rintro e w1 ⟨A1, c1, rfl, h1, hx1⟩
  rw [HD1.out]
  go_wp2_with fail
  refine (HC2.out _).mono ?_
  rintro e w2 ⟨A2, c2, rfl, h2, hx2⟩
  rw [HD2.out]
  go_wp2_with fail
  refine (HC3.out _ _ _ _ _ (Own.mono (h1.ext hx2) (Nat.zero_le _)) (Own.mono h2 (Nat.zero_le _))).mono ?_
  rintro e w3 ⟨A3, c3, rfl, h3, hx3⟩
  have h3' : Own w3 w2.heap.size .u32 39 A3 c3 [0, 3] := by have h := h3; unfold NO at h; rwa [HD3.out] at h
  obtain ⟨g, rfl, _, _, q0, _⟩ := h3'.at_ (i := 0) (by simp)
  obtain ⟨g', hg', _, _, q1, _⟩ := h3'.at_ (i := 1) (by simp)
  injection hg' with hg'
  injection hg' with hg'
  subst hg'
  simp at q0 q1
  rw [HD3.out]
  have hx := (hx1.trans hx2).trans hx3
  clear h1 h2 h3 h3'
  go_wp2_with fail
  go_ret
  exact ⟨rfl, hx⟩

theorem few2 {w : World} {n n1 n2 c1 c2 : Nat} {A1 A2 : Option Addr} (h1 : n1 ≤ 9223372036854775807) (h2 : n2 ≤ 9223372036854775807) :
    Calls Try.prog 13 #[.int .i64 n, .slice (some ⟨w.heap.size, 0, none⟩) 2 2] (w.alloc (.cells #[.slice A1 n1 c1, .slice A2 n2 c2] 22))
      fun e w' => e = .returned (.bool (decide (n1 ≤ n) && decide (n2 ≤ n))) ∧ Ext w w' := by
  have := few_any (w := w.alloc (.cells #[.slice A1 n1 c1, .slice A2 n2 c2] 22)) (g := w.heap.size) (n := n) (c := 2) [n1, n2] (by
    intro j hj
    match j, hj with
    | 0, _ => exact ⟨A1, c1, by simp⟩
    | 1, _ => exact ⟨A2, c2, by simp⟩) (by simp) (by simp; omega)
  refine this.mono ?_
  rintro e w' ⟨rfl, rfl⟩
  exact ⟨by simp, Ext.alloc _ _⟩
theorem few1 {w : World} {n n1 c1 : Nat} {A1 : Option Addr} (h1 : n1 ≤ 9223372036854775807) :
    Calls Try.prog 13 #[.int .i64 n, .slice (some ⟨w.heap.size, 0, none⟩) 1 1] (w.alloc (.cells #[.slice A1 n1 c1] 22))
      fun e w' => e = .returned (.bool (decide (n1 ≤ n))) ∧ Ext w w' := by
  have := few_any (w := w.alloc (.cells #[.slice A1 n1 c1] 22)) (g := w.heap.size) (n := n) (c := 1) [n1] (by
    intro j hj
    match j, hj with
    | 0, _ => exact ⟨A1, c1, by simp⟩) (by simp) (by simpa using h1)
  refine this.mono ?_
  rintro e w' ⟨rfl, rfl⟩
  exact ⟨by simp, Ext.alloc _ _⟩
theorem few3 {w : World} {n n1 n2 n3 c1 c2 c3 : Nat} {A1 A2 A3 : Option Addr} (h1 : n1 ≤ 9223372036854775807) (h2 : n2 ≤ 9223372036854775807) (h3 : n3 ≤ 9223372036854775807) :
    Calls Try.prog 13 #[.int .i64 n, .slice (some ⟨w.heap.size, 0, none⟩) 3 3] (w.alloc (.cells #[.slice A1 n1 c1, .slice A2 n2 c2, .slice A3 n3 c3] 22))
      fun e w' => e = .returned (.bool (decide (n1 ≤ n) && (decide (n2 ≤ n) && decide (n3 ≤ n)))) ∧ Ext w w' := by
  have := few_any (w := w.alloc (.cells #[.slice A1 n1 c1, .slice A2 n2 c2, .slice A3 n3 c3] 22)) (g := w.heap.size) (n := n) (c := 3) [n1, n2, n3] (by
    intro j hj
    match j, hj with
    | 0, _ => exact ⟨A1, c1, by simp⟩
    | 1, _ => exact ⟨A2, c2, by simp⟩
    | 2, _ => exact ⟨A3, c3, by simp⟩) (by simp) (by simp; omega)
  refine this.mono ?_
  rintro e w' ⟨rfl, rfl⟩
  exact ⟨by simp, Ext.alloc _ _⟩

theorem len_V {ds : List Nat} (h : Valid B32 ds) : dl (V ds) ≤ ds.length := by
  unfold dl; rw [← trim_V h]; exact trimL_le ds
theorem bl_V {ds : List Nat} (h : Valid B32 ds) : bl (V ds) ≤ 32 * ds.length := by
  unfold bl
  apply digs_len_le (by omega)
  have := val_lt h
  rwa [show B32 = 2 ^ 32 from rfl, ← Nat.pow_mul] at this
theorem bl_add (a b : Nat) : bl (a + b) ≤ max (bl a) (bl b) + 1 := digs_len_add (by omega) a b
theorem bl_mul (a b : Nat) : bl (a * b) ≤ bl a + bl b := digs_len_mul (by omega) a b
theorem bl_mono {a b : Nat} (h : a ≤ b) : bl a ≤ bl b := digs_len_mono (by omega) h
theorem dl_add (a b : Nat) : dl (a + b) ≤ max (dl a) (dl b) + 1 := digs_len_add B32_two a b
theorem dl_mul (a b : Nat) : dl (a * b) ≤ dl a + dl b := digs_len_mul B32_two a b
theorem dl_mono {a b : Nat} (h : a ≤ b) : dl a ≤ dl b := digs_len_mono B32_two h

/-- What 'Is' says where the digits are those of the number. -/
theorem is_yes {w : World} {B : Nat} {A1 A2 : Option Addr} {c1 c2 n m : Nat} (h1 : NO w B A1 c1 n) (h2 : BN w A2 c2 m) (hnm : n = m) (hs : bl m ≤ 8796093022208) :
    Calls Try.prog 18 #[.slice A1 (digs B32 n).length c1, .slice A2 (digs 2 m).length c2] w fun e w' => e = .returned (.bool true) ∧ Ext w w' := by
  subst hnm
  refine (is_any h1.nr h2 hs).mono ?_
  rintro e w' ⟨rfl, hx⟩
  exact ⟨by simp, hx⟩

theorem len_zero2 (n : Nat) : (((digs 2 n).length : Int) == 0) = (n == 0) := by
  rw [Bool.eq_iff_iff]
  simp [digs_eq_nil (B := 2) (by omega)]
theorem cmpN_ge {a b : Nat} (h : b ≤ a) : 0 ≤ cmpN a b := by unfold cmpN; rw [if_neg (by omega)]; split <;> omega

theorem naturalAdds_walk {w : World} {A1 A2 : Option Addr} {c1 c2 : Nat} {da db : List Nat} (h1 : NR w A1 c1 da) (h2 : NR w A2 c2 db) :
    Calls Try.prog 3 #[.slice A1 da.length c1, .slice A2 db.length c2] w fun e w' => e = .returned (.bool true) ∧ Ext w w' := by
  have l1 := h1.le
  have l2 := h2.le
  have p1 := h1.cap
  have p2 := h2.cap
  have hx := Ext.refl w
  by_cases hf : (decide (da.length ≤ 30) && decide (db.length ≤ 30)) = true
  · have k1 : da.length ≤ 30 := by simp at hf; omega
    have k2 : db.length ≤ 30 := by simp at hf; omega
    have s1 := len_V h1.valid
    have s2 := len_V h2.valid
    have b1 := bl_V h1.valid
    have b2 := bl_V h2.valid
    have b3 := bl_add (V da) (V db)
    have hz := len_zero2 (V da)
    have HF := Lib.hid hf
    clear hf
    rcases Nat.lt_or_ge (V da) (V db) with hab | hab
    · have hc := cmpN_lt hab
      have hb4 := hab
      go_enter Try.func3, Try.ntmps3
      go_wp2_with fail
      refine (awake1 _).mono ?_
      rintro e w1 ⟨rfl, x1⟩
      have hx := hx.trans x1
      have h1 := h1.ext x1
      have h2 := h2.ext x1
      go_wp2_with fail
      refine (few2 (by omega) (by omega)).mono ?_
      rintro e w2 ⟨rfl, x2⟩
      have hx := hx.trans x2
      have h1 := h1.ext x2
      have h2 := h2.ext x2
      rw [HF.out]
      go_wp2_with fail
      refine (rof_any h1 (by omega)).mono ?_
      rintro e w3 ⟨Ag1, cg1, rfl, g1, x3⟩
      have hx := hx.trans x3
      have h1 := h1.ext x3
      have h2 := h2.ext x3
      go_wp2_with fail
      refine (rof_any h2 (by omega)).mono ?_
      rintro e w4 ⟨Ag2, cg2, rfl, g2, x4⟩
      have hx := hx.trans x4
      have h1 := h1.ext x4
      have h2 := h2.ext x4
      have g1 := g1.ext x4
      go_wp2_with fail
      refine (rcmp_any g1 g2 (by omega) (by omega)).mono ?_
      rintro e w' ⟨rfl, rfl⟩
      go_wp2_with fail
      refine (sub_no h1 h2 hab).mono ?_
      rintro e w5 ⟨rfl, x5⟩
      have hx := hx.trans x5
      have h1 := h1.ext x5
      have h2 := h2.ext x5
      have g1 := g1.ext x5
      have g2 := g2.ext x5
      go_wp2_with fail
      refine (cmp_any h1 h2).mono ?_
      rintro e w6 ⟨rfl, q6⟩
      have x6 := q6.ext
      have hx := hx.trans x6
      have h1 := h1.ext x6
      have h2 := h2.ext x6
      have g1 := g1.ext x6
      have g2 := g2.ext x6
      go_wp2_with fail
      refine (add_any h1 h2 (by omega) (by omega)).mono ?_
      rintro e w7 ⟨As, cs, rfl, s, x7⟩
      have hx := hx.trans x7
      have h1 := h1.ext x7
      have h2 := h2.ext x7
      have g1 := g1.ext x7
      have g2 := g2.ext x7
      go_wp2_with fail
      refine (radd_any g1 g2 (by omega) (by omega)).mono ?_
      rintro e w8 ⟨Asr, csr, rfl, sr, x8⟩
      have hx := hx.trans x8
      have h1 := h1.ext x8
      have h2 := h2.ext x8
      have g1 := g1.ext x8
      have g2 := g2.ext x8
      have s := s.ext x8
      go_wp2_with fail
      refine (is_yes s sr rfl (by omega)).mono ?_
      rintro e w9 ⟨rfl, x9⟩
      have hx := hx.trans x9
      have h1 := h1.ext x9
      have h2 := h2.ext x9
      have g1 := g1.ext x9
      have g2 := g2.ext x9
      have s := s.ext x9
      have sr := sr.ext x9
      go_wp2_with fail
      refine (normal_any h1 (by omega)).mono ?_
      rintro e w10 ⟨Ann, cnn, rfl, nn, x10⟩
      have hx := hx.trans x10
      have h1 := h1.ext x10
      have h2 := h2.ext x10
      have g1 := g1.ext x10
      have g2 := g2.ext x10
      have s := s.ext x10
      have sr := sr.ext x10
      go_wp2_with fail
      refine (is_yes nn g1 rfl (by omega)).mono ?_
      rintro e w11 ⟨rfl, x11⟩
      have hx := hx.trans x11
      have h1 := h1.ext x11
      have h2 := h2.ext x11
      have g1 := g1.ext x11
      have g2 := g2.ext x11
      have s := s.ext x11
      have sr := sr.ext x11
      have nn := nn.ext x11
      go_wp2_with fail
      refine (isZero_any h1).mono ?_
      rintro e w' ⟨rfl, rfl⟩
      go_wp2_with fail
      go_ret
      exact ⟨rfl, hx⟩
    · have hc := cmpN_ge hab
      have b4 := bl_mono (show V da - V db ≤ V da by omega)
      go_enter Try.func3, Try.ntmps3
      go_wp2_with fail
      refine (awake1 _).mono ?_
      rintro e w1 ⟨rfl, x1⟩
      have hx := hx.trans x1
      have h1 := h1.ext x1
      have h2 := h2.ext x1
      go_wp2_with fail
      refine (few2 (by omega) (by omega)).mono ?_
      rintro e w2 ⟨rfl, x2⟩
      have hx := hx.trans x2
      have h1 := h1.ext x2
      have h2 := h2.ext x2
      rw [HF.out]
      go_wp2_with fail
      refine (rof_any h1 (by omega)).mono ?_
      rintro e w3 ⟨Ag1, cg1, rfl, g1, x3⟩
      have hx := hx.trans x3
      have h1 := h1.ext x3
      have h2 := h2.ext x3
      go_wp2_with fail
      refine (rof_any h2 (by omega)).mono ?_
      rintro e w4 ⟨Ag2, cg2, rfl, g2, x4⟩
      have hx := hx.trans x4
      have h1 := h1.ext x4
      have h2 := h2.ext x4
      have g1 := g1.ext x4
      go_wp2_with fail
      refine (rcmp_any g1 g2 (by omega) (by omega)).mono ?_
      rintro e w' ⟨rfl, rfl⟩
      go_wp2_with fail
      refine (sub_yes h1 h2 (by omega) hab).mono ?_
      rintro e w5 ⟨Ad, cd, rfl, d, x5⟩
      have hx := hx.trans x5
      have h1 := h1.ext x5
      have h2 := h2.ext x5
      have g1 := g1.ext x5
      have g2 := g2.ext x5
      go_wp2_with fail
      refine (cmp_any h1 h2).mono ?_
      rintro e w6 ⟨rfl, q6⟩
      have x6 := q6.ext
      have hx := hx.trans x6
      have h1 := h1.ext x6
      have h2 := h2.ext x6
      have g1 := g1.ext x6
      have g2 := g2.ext x6
      have d := d.ext x6
      go_wp2_with fail
      refine (add_any h1 h2 (by omega) (by omega)).mono ?_
      rintro e w7 ⟨As, cs, rfl, s, x7⟩
      have hx := hx.trans x7
      have h1 := h1.ext x7
      have h2 := h2.ext x7
      have g1 := g1.ext x7
      have g2 := g2.ext x7
      have d := d.ext x7
      go_wp2_with fail
      refine (radd_any g1 g2 (by omega) (by omega)).mono ?_
      rintro e w8 ⟨Asr, csr, rfl, sr, x8⟩
      have hx := hx.trans x8
      have h1 := h1.ext x8
      have h2 := h2.ext x8
      have g1 := g1.ext x8
      have g2 := g2.ext x8
      have d := d.ext x8
      have s := s.ext x8
      go_wp2_with fail
      refine (is_yes s sr rfl (by omega)).mono ?_
      rintro e w9 ⟨rfl, x9⟩
      have hx := hx.trans x9
      have h1 := h1.ext x9
      have h2 := h2.ext x9
      have g1 := g1.ext x9
      have g2 := g2.ext x9
      have d := d.ext x9
      have s := s.ext x9
      have sr := sr.ext x9
      go_wp2_with fail
      refine (normal_any h1 (by omega)).mono ?_
      rintro e w10 ⟨Ann, cnn, rfl, nn, x10⟩
      have hx := hx.trans x10
      have h1 := h1.ext x10
      have h2 := h2.ext x10
      have g1 := g1.ext x10
      have g2 := g2.ext x10
      have d := d.ext x10
      have s := s.ext x10
      have sr := sr.ext x10
      go_wp2_with fail
      refine (is_yes nn g1 rfl (by omega)).mono ?_
      rintro e w11 ⟨rfl, x11⟩
      have hx := hx.trans x11
      have h1 := h1.ext x11
      have h2 := h2.ext x11
      have g1 := g1.ext x11
      have g2 := g2.ext x11
      have d := d.ext x11
      have s := s.ext x11
      have sr := sr.ext x11
      have nn := nn.ext x11
      go_wp2_with fail
      refine (isZero_any h1).mono ?_
      rintro e w' ⟨rfl, rfl⟩
      go_wp2_with fail
      refine (rsub_any g1 g2 hab (by omega)).mono ?_
      rintro e w12 ⟨Ar, cr, rfl, r, x12⟩
      have hx := hx.trans x12
      have h1 := h1.ext x12
      have h2 := h2.ext x12
      have g1 := g1.ext x12
      have g2 := g2.ext x12
      have d := d.ext x12
      have s := s.ext x12
      have sr := sr.ext x12
      have nn := nn.ext x12
      go_wp2_with fail
      refine (is_yes d r rfl (by omega)).mono ?_
      rintro e w13 ⟨rfl, x13⟩
      have hx := hx.trans x13
      have h1 := h1.ext x13
      have h2 := h2.ext x13
      have g1 := g1.ext x13
      have g2 := g2.ext x13
      have d := d.ext x13
      have s := s.ext x13
      have sr := sr.ext x13
      have nn := nn.ext x13
      have r := r.ext x13
      go_wp2_with fail
      go_ret
      exact ⟨rfl, hx⟩
  · have hf' : (decide (da.length ≤ 30) && decide (db.length ≤ 30)) = false := by simpa using hf
    have HF := Lib.hid hf'
    clear hf hf'
    go_enter Try.func3, Try.ntmps3
    go_wp2_with fail
    refine (awake1 _).mono ?_
    rintro e w1 ⟨rfl, x1⟩
    have hx := hx.trans x1
    go_wp2_with fail
    refine (few2 (by omega) (by omega)).mono ?_
    rintro e w2 ⟨rfl, x2⟩
    have hx := hx.trans x2
    rw [HF.out]
    go_wp2_with fail
    refine (awake1 _).mono ?_
    rintro e w3 ⟨rfl, x3⟩
    have hx := hx.trans x3
    go_wp2_with fail
    go_ret
    exact ⟨rfl, hx⟩
end Go.Proofs.Ytjefndkhonpalaa
