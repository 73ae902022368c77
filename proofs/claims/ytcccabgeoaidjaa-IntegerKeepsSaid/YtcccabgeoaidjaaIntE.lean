/- Contracts of package integer, fifth part: Sum, Product. -/
import Derived.Test.YtcccabgeoaidjaaIntD
import Derived.Test.YtcccabgeoaidjaaLawZ
namespace Go.Proofs.Ytcccabgeoaidjaa
open Go.RowKit
/-- A list of integers that lies in memory. -/
def ZL (w : World) (A : Option Addr) (xs : List Int) : Prop :=
  ∀ j (h : j < xs.length), ∃ b off s A' c L, A = some ⟨b, off, none⟩ ∧ b < w.heap.size ∧ w.cell? ⟨b, off + j * 2, none⟩ = some (.bool s) ∧ w.cell? ⟨b, off + j * 2 + 1, none⟩ = some (.slice A' L c) ∧ ZV w s A' c L xs[j]
theorem ZL.ext {w w' : World} {A : Option Addr} {xs : List Int} (h : ZL w A xs) (hx : Ext w w') : ZL w' A xs := fun j hj => by
  obtain ⟨b, off, s, A', c, L, hA, hb, e0, e1, hv⟩ := h j hj
  exact ⟨b, off, s, A', c, L, hA, Nat.lt_of_lt_of_le hb hx.size, hx.cell e0, hx.cell e1, hv.ext hx⟩
/-- The head of a round of 'Sum' and 'Product': the result so far lies in the box g; the call's own box is as it was. -/
structure SumInv (w wr : World) (g : Nat) (x : Int) (s : Bool) (A : Option Addr) (L c : Nat) : Prop where
  lt : w.heap.size < g
  t0 : wr.cell? ⟨g, 0, none⟩ = some (.bool s)
  t1 : wr.cell? ⟨g, 1, none⟩ = some (.slice A L c)
  u0 : wr.frozen? ⟨g, 0, none⟩ = false
  u1 : wr.frozen? ⟨g, 1, none⟩ = false
  q0 : wr.cell? ⟨w.heap.size, 0, none⟩ = some (.bool false)
  q1 : wr.cell? ⟨w.heap.size, 1, none⟩ = some (.slice none 0 0)
  r0 : wr.frozen? ⟨w.heap.size, 0, none⟩ = false
  r1 : wr.frozen? ⟨w.heap.size, 1, none⟩ = false
  z : ZO wr (w.heap.size + 1) s A c L x
  x : Ext w wr
theorem frozen_set {w : World} {p q : Addr} {u : Value} : (w.setCell p u).frozen? q = w.frozen? q := by go_simp
theorem SumInv.step {w wr w4 : World} {g B : Nat} {x x' : Int} {s s' : Bool} {A A' : Option Addr} {L c L' c' : Nat} (h : SumInv w wr g x s A L c) (y : Ext wr w4) (hz : ZO w4 B s' A' c' L' x') (hB : wr.heap.size ≤ B) :
    SumInv w ((w4.setCell ⟨g, 0, none⟩ (.bool s')).setCell ⟨g, 1, none⟩ (.slice A' L' c')) g x' s' A' L' c' := by
  have hg : g < wr.heap.size := World.block_lt_of_cell? wr _ h.t0
  have hlt := h.lt
  obtain ⟨r5, r6⟩ := res_set (r1 := .bool s') (r2 := .slice A' L' c') (y.cell h.t0) (y.cell h.t1)
  have hne : ∀ i j : Nat, (⟨g, i, none⟩ : Addr) ≠ ⟨w.heap.size, j, none⟩ := fun i j e => by injection e with e1; omega
  refine ⟨hlt, r5, r6, ?_, ?_, ?_, ?_, ?_, ?_, ?_, ?_⟩
  · rw [frozen_set, frozen_set]; exact y.frozen h.t0 h.u0
  · rw [frozen_set, frozen_set]; exact y.frozen h.t1 h.u1
  · exact ((World.cell?_setCell_other _ _ _ _ (hne _ _)).trans (World.cell?_setCell_other _ _ _ _ (hne _ _))).trans (y.cell h.q0)
  · exact ((World.cell?_setCell_other _ _ _ _ (hne _ _)).trans (World.cell?_setCell_other _ _ _ _ (hne _ _))).trans (y.cell h.q1)
  · rw [frozen_set, frozen_set]; exact y.frozen h.q0 h.r0
  · rw [frozen_set, frozen_set]; exact y.frozen h.q1 h.r1
  · exact ⟨Own.mono ((Own.set_far hz.no (p := ⟨g, 0, none⟩) (by show g < B; omega) _).set_far (p := ⟨g, 1, none⟩) (by show g < B; omega) _) (by omega), hz.sign, hz.len⟩
  · exact Ext.set_ (Ext.set_ (h.x.trans y) (by omega)) (by omega)
theorem fold_take {xs : List Int} {k : Nat} (h : k < xs.length) (f : Int → Int → Int) (a : Int) : (xs.take (k + 1)).foldl f a = f ((xs.take k).foldl f a) xs[k] := by
  rw [List.take_succ_eq_append_getElem h, List.foldl_append]; rfl
theorem sum_bound {xs : List Int} (h : ∀ x ∈ xs, dl x.natAbs ≤ 1000) : ∀ k, k ≤ xs.length → dl ((xs.take k).foldl (· + ·) 0).natAbs ≤ 1000 + k
  | 0, _ => by show dl 0 ≤ _; have : dl 0 = 0 := rfl; omega
  | k + 1, hk => by
    rw [fold_take (by omega)]
    have h1 := sum_bound h k (by omega)
    have h2 := h _ (List.getElem_mem (show k < xs.length by omega))
    have h3 := dlz_add ((xs.take k).foldl (· + ·) 0) (xs[k]'(by omega))
    omega
theorem prod_bound {xs : List Int} (h : ∀ x ∈ xs, dl x.natAbs ≤ 40) : ∀ k, k ≤ xs.length → dl ((xs.take k).foldl (· * ·) 1).natAbs ≤ 1 + 40 * k
  | 0, _ => by show dl 1 ≤ _; have : dl 1 ≤ 1 := dl_le (by unfold B32; decide); omega
  | k + 1, hk => by
    rw [fold_take (by omega)]
    have h1 := prod_bound h k (by omega)
    have h2 := h _ (List.getElem_mem (show k < xs.length by omega))
    have h3 := dlz_mul ((xs.take k).foldl (· * ·) 1) (xs[k]'(by omega))
    omega
theorem SumInv.finish {w wr : World} {g : Nat} {x : Int} {s : Bool} {A : Option Addr} {L c : Nat} (h : SumInv w wr g x s A L c) :
    ((wr.setCell ⟨w.heap.size, 0, none⟩ (.bool s)).setCell ⟨w.heap.size, 1, none⟩ (.slice A L c)).cell? ⟨w.heap.size, 0, none⟩ = some (.bool s) ∧
      ((wr.setCell ⟨w.heap.size, 0, none⟩ (.bool s)).setCell ⟨w.heap.size, 1, none⟩ (.slice A L c)).cell? ⟨w.heap.size, 1, none⟩ = some (.slice A L c) ∧
      ZO ((wr.setCell ⟨w.heap.size, 0, none⟩ (.bool s)).setCell ⟨w.heap.size, 1, none⟩ (.slice A L c)) w.heap.size s A c L x ∧ Ext w ((wr.setCell ⟨w.heap.size, 0, none⟩ (.bool s)).setCell ⟨w.heap.size, 1, none⟩ (.slice A L c)) :=
  fin_z (Nat.le_refl _) (Nat.lt_succ_self _) h.x h.z h.q0 h.q1

set_option maxRecDepth 100000 in
theorem sum_z {w : World} {A0 : Option Addr} {c n : Nat} {xs : List Int} (h : ZL w A0 xs) (hl : xs.length ≤ 1000) (hn : n = xs.length) (hd : ∀ x ∈ xs, dl x.natAbs ≤ 1000) :
    Calls Try.prog 37 #[.slice A0 n c] w (RetZ w (xs.foldl (· + ·) 0)) := by
  have HL := Lib.hid h
  have HN := Lib.hid hn
  have HB := Lib.hid (sum_bound hd)
  have HM := Lib.hid hd
  have hnb : n ≤ 1000 := by omega
  have hinv : SumInv w ((w.alloc (.cells #[.bool false, .slice none 0 0] 25)).alloc (.cells #[.bool false, .slice none 0 0] 25)) (w.heap.size + 1) 0 false none 0 0 := by
    have b0 := box_at w #[.bool false, .slice none 0 0] 25
    have b1 := box_at (w.alloc (.cells #[.bool false, .slice none 0 0] 25)) #[.bool false, .slice none 0 0] 25
    simp only [World.size_alloc] at b1
    have y := Ext.alloc (w.alloc (.cells #[.bool false, .slice none 0 0] 25)) (.cells #[.bool false, .slice none 0 0] 25)
    have c0 := b0.1 0 (.bool false) rfl
    have c1 := b0.1 1 (.slice none 0 0) rfl
    exact ⟨Nat.lt_succ_self _, b1.1 0 (.bool false) rfl, b1.1 1 (.slice none 0 0) rfl, b1.2 0, b1.2 1, y.cell c0, y.cell c1, y.frozen c0 (b0.2 0), y.frozen c1 (b0.2 1), ⟨Own.none_ _ _ _ _, rfl, rfl⟩, (Ext.alloc _ _).trans y⟩
  have HI := Lib.hid hinv
  clear h hn hd hinv
  go_enter Try.func37, Try.ntmps37
  go_wp2_with fail
  go_loopw [9] (fun i wr => ∃ k : Nat, ∃ s A L c', k ≤ n ∧ i = .int .i64 k ∧ SumInv w wr (w.heap.size + 1) ((xs.take k).foldl (· + ·) 0) s A L c') (fun i _ => n - (intOf i).toNat)
  case atStart => exact ⟨0, false, none, 0, 0, Nat.zero_le _, rfl, HI.out⟩
  case round =>
    clear HI
    obtain ⟨k, s, A, L, c', hk, rfl, hI⟩ := hrel
    by_cases hlt : k < n
    · have hkx : k < xs.length := by rw [← HN.out]; exact hlt
      obtain ⟨b, off, s2, A2, c2, L2, rfl, hb, e0, e1, hv⟩ := HL.out k hkx
      have d0 := hI.x.cell e0
      have d1 := hI.x.cell e1
      have t0 := fun o => (Ext.alloc wr o).cell hI.t0
      have t1 := fun o => (Ext.alloc wr o).cell hI.t1
      have HK := Lib.hid hkx
      have HI := Lib.hid hI
      clear e0 e1 hI
      go_wp2_with fail
      clear t0 t1 d0 d1
      obtain ⟨wa, hwa⟩ : ∃ z : World, z = wr.alloc (.cells #[.bool s2, .slice A2 L2 c2] 25) := ⟨_, rfl⟩
      rw [← hwa]
      have xa : Ext wr wa := by rw [hwa]; exact Ext.alloc _ _
      clear hwa
      refine (add_z (HI.out.z.zv.ext xa) (hv.ext (HI.out.x.trans xa)) (by have := HB.out k (by rw [← HN.out]; exact hk); omega) (by have := HM.out _ (List.getElem_mem HK.out); omega)).mono ?_
      rintro e w4 ⟨s4, A4, c4, L4, rfl, hz4, hx4⟩
      have y := xa.trans hx4
      have p0 := y.cell HI.out.t0
      have p1 := y.cell HI.out.t1
      have f0 := y.frozen HI.out.t0 HI.out.u0
      have f1 := y.frozen HI.out.t1 HI.out.u1
      have HS := Lib.hid (HI.out.step y hz4 xa.size)
      clear hz4 hx4 y xa hv
      go_wp2_with fail
      go_roundw
      case rel => exact ⟨k + 1, s4, A4, L4, c4, by omega, by go_num, by rw [fold_take HK.out]; exact HS.out⟩
      case measure => simp [intOf]; omega
    · obtain rfl : k = n := by omega
      have t0 := hI.t0
      have t1 := hI.t1
      have q0 := hI.q0
      have q1 := hI.q1
      have r0 := hI.r0
      have r1 := hI.r1
      obtain ⟨v0, v1, hz, hx⟩ := hI.finish
      have HT : Hid ((xs.take k).foldl (· + ·) 0 = xs.foldl (· + ·) 0) := Lib.hid (by rw [HN.out, List.take_length])
      have HI := Lib.hid hI
      clear hI
      go_wp2_with fail
      refine bodyPost_ret (v := .agg #[.bool s, .slice A L c']) (by simp [results, Try.results37, go_sem, v0, v1]) rfl ?_
      exact ⟨_, _, _, _, rfl, by rw [← HT.out]; exact hz, hx⟩

set_option maxRecDepth 100000 in
theorem product_z {w : World} {A0 : Option Addr} {c n : Nat} {xs : List Int} (h : ZL w A0 xs) (hl : xs.length ≤ 1000) (hn : n = xs.length) (hd : ∀ x ∈ xs, dl x.natAbs ≤ 40) :
    Calls Try.prog 38 #[.slice A0 n c] w (RetZ w (xs.foldl (· * ·) 1)) := by
  have HL := Lib.hid h
  have HN := Lib.hid hn
  have HB := Lib.hid (prod_bound hd)
  have HM := Lib.hid hd
  have hnb : n ≤ 1000 := by omega
  have hO : Hid (∀ w', Calls Try.prog 28 #[.int .i64 1] w' (RetZ w' 1)) := fun w' => of_z (by omega)
  clear h hn hd
  go_enter Try.func38, Try.ntmps38
  go_wp2_with fail
  refine (hO.out _).mono ?_
  rintro e w1 ⟨so, Ao, co, Lo, rfl, zo, xo⟩
  have b0 := box_at w #[.bool false, .slice none 0 0] 25
  have b1 := box_at w1 #[.bool so, .slice Ao Lo co] 25
  have y := Ext.alloc w1 (.cells #[.bool so, .slice Ao Lo co] 25)
  have y2 := xo.trans y
  have c0 := b0.1 0 (.bool false) rfl
  have c1 := b0.1 1 (.slice none 0 0) rfl
  have hsz := xo.size
  simp only [World.size_alloc] at hsz
  have HI : Hid (SumInv w (w1.alloc (.cells #[.bool so, .slice Ao Lo co] 25)) w1.heap.size 1 so Ao Lo co) := Lib.hid
    ⟨by omega, b1.1 0 (.bool so) rfl, b1.1 1 (.slice Ao Lo co) rfl, b1.2 0, b1.2 1, y2.cell c0, y2.cell c1, y2.frozen c0 (b0.2 0), y2.frozen c1 (b0.2 1), (zo.mono (by simp)).ext y, (Ext.alloc _ _).trans y2⟩
  clear b0 b1 y y2 c0 c1 hsz zo xo
  go_wp2_with fail
  go_loopw [9] (fun i wr => ∃ k : Nat, ∃ s A L c', k ≤ n ∧ i = .int .i64 k ∧ SumInv w wr w1.heap.size ((xs.take k).foldl (· * ·) 1) s A L c') (fun i _ => n - (intOf i).toNat)
  case atStart => exact ⟨0, so, Ao, Lo, co, Nat.zero_le _, rfl, HI.out⟩
  case round =>
    clear HI
    obtain ⟨k, s, A, L, c', hk, rfl, hI⟩ := hrel
    by_cases hlt : k < n
    · have hkx : k < xs.length := by rw [← HN.out]; exact hlt
      obtain ⟨b, off, s2, A2, c2, L2, rfl, hb, e0, e1, hv⟩ := HL.out k hkx
      have d0 := hI.x.cell e0
      have d1 := hI.x.cell e1
      have t0 := fun o => (Ext.alloc wr o).cell hI.t0
      have t1 := fun o => (Ext.alloc wr o).cell hI.t1
      have HK := Lib.hid hkx
      have HI := Lib.hid hI
      clear e0 e1 hI
      go_wp2_with fail
      clear t0 t1 d0 d1
      obtain ⟨wa, hwa⟩ : ∃ z : World, z = wr.alloc (.cells #[.bool s2, .slice A2 L2 c2] 25) := ⟨_, rfl⟩
      rw [← hwa]
      have xa : Ext wr wa := by rw [hwa]; exact Ext.alloc _ _
      clear hwa
      refine (mul_z (HI.out.z.zv.ext xa) (hv.ext (HI.out.x.trans xa)) (by have := HB.out k (by rw [← HN.out]; exact hk); have := HM.out _ (List.getElem_mem HK.out); omega) (by have := HM.out _ (List.getElem_mem HK.out); omega)).mono ?_
      rintro e w4 ⟨s4, A4, c4, L4, rfl, hz4, hx4⟩
      have y := xa.trans hx4
      have p0 := y.cell HI.out.t0
      have p1 := y.cell HI.out.t1
      have f0 := y.frozen HI.out.t0 HI.out.u0
      have f1 := y.frozen HI.out.t1 HI.out.u1
      have HS := Lib.hid (HI.out.step y hz4 xa.size)
      clear hz4 hx4 y xa hv
      go_wp2_with fail
      go_roundw
      case rel => exact ⟨k + 1, s4, A4, L4, c4, by omega, by go_num, by rw [fold_take HK.out]; exact HS.out⟩
      case measure => simp [intOf]; omega
    · obtain rfl : k = n := by omega
      have t0 := hI.t0
      have t1 := hI.t1
      have q0 := hI.q0
      have q1 := hI.q1
      have r0 := hI.r0
      have r1 := hI.r1
      obtain ⟨v0, v1, hz, hx⟩ := hI.finish
      have HT : Hid ((xs.take k).foldl (· * ·) 1 = xs.foldl (· * ·) 1) := Lib.hid (by rw [HN.out, List.take_length])
      have HI := Lib.hid hI
      clear hI
      go_wp2_with fail
      refine bodyPost_ret (v := .agg #[.bool s, .slice A L c']) (by simp [results, Try.results38, go_sem, v0, v1]) rfl ?_
      exact ⟨_, _, _, _, rfl, by rw [← HT.out]; exact hz, hx⟩
end Go.Proofs.Ytcccabgeoaidjaa
