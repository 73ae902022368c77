/- Contracts of package integer, fourth part: BitLen, IsOdd, Int64. -/
import Derived.Test.YtcccabgeoaidjaaRefY
import Derived.Test.YtcccabgeoaidjaaNatY
namespace Go.Proofs.Ytcccabgeoaidjaa
open Go.RowKit

theorem zbitLen_z {w : World} {s : Bool} {A : Option Addr} {c L : Nat} {x : Int} (h : ZV w s A c L x) (hs : dl x.natAbs ≤ 17592186044416) :
    Calls Try.prog 22 #[.agg #[.bool s, .slice A L c]] w fun e w' => e = .returned (.int .i64 (bl x.natAbs)) ∧ Ext w w' := by
  have HC : Hid (∀ w', Ext w w' → Calls Try.prog 50 #[.slice A L c] w' fun e w'' => e = .returned (.int .i64 (bl x.natAbs)) ∧ w' = w'') := fun w' hx => bitLen_v (h.nv.ext hx) hs
  clear h hs
  generalize bl x.natAbs = n at *
  go_enter Try.func22, Try.ntmps22
  go_wp2_with fail
  obtain ⟨w0, hw0⟩ : ∃ z : World, z = (w.alloc (.cells #[.bool s, .slice A L c] 25)) := ⟨_, rfl⟩
  rw [← hw0]
  have b0 := box_at w #[.bool s, .slice A L c] 25
  have hsz : w0.heap.size = w.heap.size + 1 := by rw [hw0]; simp
  rw [← hw0] at b0
  have y0 : Ext w w0 := by rw [hw0]; exact Ext.alloc _ _
  have x0 : Ext w w0 := y0
  have e0_0 := b0.1 0 (.bool s) rfl
  have e0_1 := b0.1 1 (.slice A L c) rfl
  clear hw0 b0 y0
  go_wp2_with fail
  refine (HC.out _ x0).mono ?_
  rintro e w' ⟨rfl, rfl⟩
  go_wp2_with fail
  go_ret
  exact ⟨rfl, x0⟩

theorem bit0 (n : Nat) : bitN n 0 = n % 2 := by unfold bitN; simp
theorem isOdd_z {w : World} {s : Bool} {A : Option Addr} {c L : Nat} {x : Int} (h : ZV w s A c L x) :
    Calls Try.prog 23 #[.agg #[.bool s, .slice A L c]] w fun e w' => e = .returned (.bool (x.natAbs % 2 == 1)) ∧ Ext w w' := by
  have HB : Hid (∀ w', Ext w w' → Calls Try.prog 51 #[.slice A L c, .int .i64 0] w' fun e w'' => e = .returned (.int .i64 ((x.natAbs % 2 : Nat) : Int)) ∧ Ext w' w'') := fun w' hx => by
    refine (bit_v (i := 0) (h.nv.ext hx) (by omega)).mono ?_
    rintro e w'' ⟨rfl, rfl⟩
    exact ⟨by rw [bit0], Ext.refl _⟩
  have HQ : Hid ((((x.natAbs % 2 : Nat) : Int) == 1) = (x.natAbs % 2 == 1)) := by
    show _ = _
    rw [Bool.eq_iff_iff]; simp; omega
  clear h
  generalize x.natAbs % 2 = b at *
  go_enter Try.func23, Try.ntmps23
  go_wp2_with fail
  obtain ⟨w0, hw0⟩ : ∃ z : World, z = (w.alloc (.cells #[.bool s, .slice A L c] 25)) := ⟨_, rfl⟩
  rw [← hw0]
  have b0 := box_at w #[.bool s, .slice A L c] 25
  have hsz : w0.heap.size = w.heap.size + 1 := by rw [hw0]; simp
  rw [← hw0] at b0
  have y0 : Ext w w0 := by rw [hw0]; exact Ext.alloc _ _
  have x0 : Ext w w0 := y0
  have e0_0 := b0.1 0 (.bool s) rfl
  have e0_1 := b0.1 1 (.slice A L c) rfl
  clear hw0 b0 y0
  go_wp2_with fail
  refine (HB.out _ x0).mono ?_
  rintro e w' ⟨rfl, x1⟩
  go_wp2_with fail
  go_ret
  exact ⟨by rw [← HQ.out]; rfl, x0.trans x1⟩

theorem wrap_neg {n : Nat} (h : n ≤ 9223372036854775808) : wrap64 (IntKind.u64.wrap (-(n : Int))) = -(n : Int) := by
  have e : ∀ z : Int, IntKind.u64.wrap z = z % 18446744073709551616 := fun z => rfl
  unfold wrap64
  rw [e]
  omega
theorem ret_ib {k : IntKind} {a b : Int} {t : Bool} (h : a = b) : Ending.returned (.tuple #[.int k a, .bool t]) = .returned (.tuple #[.int k b, .bool t]) := by rw [h]
set_option maxRecDepth 100000 in
theorem int64_yes {w : World} {s : Bool} {A : Option Addr} {c L : Nat} {x : Int} (h : ZV w s A c L x) (hx1 : -9223372036854775808 ≤ x) (hx2 : x ≤ 9223372036854775807) :
    Calls Try.prog 35 #[.agg #[.bool s, .slice A L c]] w fun e w' => e = .returned (.tuple #[.int .i64 x, .bool true]) ∧ Ext w w' := by
  have HC : Hid (∀ w', Ext w w' → Calls Try.prog 59 #[.slice A L c] w' fun e w'' => e = .returned (.tuple #[.int .u64 x.natAbs, .bool true]) ∧ Ext w' w'') := fun w' hx => by
    refine (uint64_yes_v (h.nv.ext hx) (by omega)).mono ?_
    rintro e w'' ⟨rfl, hq⟩
    exact ⟨rfl, hq.ext⟩
  have n1 := h.neg
  have p1 := h.pos
  clear h
  cases s
  · have a1 := p1 rfl
    obtain ⟨n, rfl⟩ : ∃ n : Nat, x = (n : Int) := ⟨x.toNat, by omega⟩
    rw [Int.natAbs_natCast] at HC
    have hlt : (n : Int) < 9223372036854775808 := by omega
    clear n1 p1 hx1 hx2 a1
    go_enter Try.func35, Try.ntmps35
    go_wp2_with fail
    obtain ⟨w0, hw0⟩ : ∃ z : World, z = (w.alloc (.cells #[.bool false, .slice A L c] 25)) := ⟨_, rfl⟩
    rw [← hw0]
    have b0 := box_at w #[.bool false, .slice A L c] 25
    have hsz : w0.heap.size = w.heap.size + 1 := by rw [hw0]; simp
    rw [← hw0] at b0
    have y0 : Ext w w0 := by rw [hw0]; exact Ext.alloc _ _
    have x0 : Ext w w0 := y0
    have e0_0 := b0.1 0 (.bool false) rfl
    have e0_1 := b0.1 1 (.slice A L c) rfl
    clear hw0 b0 y0
    go_wp2_with fail
    refine (HC.out _ x0).mono ?_
    rintro e w' ⟨rfl, x1⟩
    have e0_0 := x1.cell e0_0
    have e0_1 := x1.cell e0_1
    go_wp2_with fail
    go_ret2
    exact ⟨rfl, x0.trans x1⟩
  · have a1 := n1 rfl
    obtain ⟨n, rfl⟩ : ∃ n : Nat, x = -(n : Int) := ⟨(-x).toNat, by omega⟩
    rw [Int.natAbs_neg, Int.natAbs_natCast] at HC
    have HW := Lib.hid (wrap_neg (n := n) (by omega))
    clear n1 p1
    go_enter Try.func35, Try.ntmps35
    go_wp2_with fail
    obtain ⟨w0, hw0⟩ : ∃ z : World, z = (w.alloc (.cells #[.bool true, .slice A L c] 25)) := ⟨_, rfl⟩
    rw [← hw0]
    have b0 := box_at w #[.bool true, .slice A L c] 25
    have hsz : w0.heap.size = w.heap.size + 1 := by rw [hw0]; simp
    rw [← hw0] at b0
    have y0 : Ext w w0 := by rw [hw0]; exact Ext.alloc _ _
    have x0 : Ext w w0 := y0
    have e0_0 := b0.1 0 (.bool true) rfl
    have e0_1 := b0.1 1 (.slice A L c) rfl
    clear hw0 b0 y0
    go_wp2_with fail
    refine (HC.out _ x0).mono ?_
    rintro e w' ⟨rfl, x1⟩
    have e0_0 := x1.cell e0_0
    have e0_1 := x1.cell e0_1
    go_wp2_with fail
    go_ret2
    exact ⟨ret_ib HW.out, x0.trans x1⟩
set_option maxRecDepth 100000 in
theorem int64_no {w : World} {s : Bool} {A : Option Addr} {c L : Nat} {x : Int} (h : ZV w s A c L x) (hx : ¬ (-9223372036854775808 ≤ x ∧ x ≤ 9223372036854775807)) :
    Calls Try.prog 35 #[.agg #[.bool s, .slice A L c]] w fun e w' => e = .returned (.tuple #[.int .i64 0, .bool false]) ∧ Ext w w' := by
  rcases Nat.lt_or_ge x.natAbs 18446744073709551616 with hlt | hge
  · have HC : Hid (∀ w', Ext w w' → Calls Try.prog 59 #[.slice A L c] w' fun e w'' => e = .returned (.tuple #[.int .u64 x.natAbs, .bool true]) ∧ Ext w' w'') := fun w' hx => by
      refine (uint64_yes_v (h.nv.ext hx) hlt).mono ?_
      rintro e w'' ⟨rfl, hq⟩
      exact ⟨rfl, hq.ext⟩
    have n1 := h.neg
    have p1 := h.pos
    clear h
    cases s
    · have a1 := p1 rfl
      have hn : ¬ (x.natAbs : Int) < 9223372036854775808 := by omega
      have hz : 0 ≤ (x.natAbs : Int) := by omega
      have hu : (x.natAbs : Int) ≤ 18446744073709551615 := by omega
      clear n1 p1 hx a1 hlt
      generalize (x.natAbs : Int) = n at *
      go_enter Try.func35, Try.ntmps35
      go_wp2_with fail
      obtain ⟨w0, hw0⟩ : ∃ z : World, z = (w.alloc (.cells #[.bool false, .slice A L c] 25)) := ⟨_, rfl⟩
      rw [← hw0]
      have b0 := box_at w #[.bool false, .slice A L c] 25
      have hsz : w0.heap.size = w.heap.size + 1 := by rw [hw0]; simp
      rw [← hw0] at b0
      have y0 : Ext w w0 := by rw [hw0]; exact Ext.alloc _ _
      have x0 : Ext w w0 := y0
      have e0_0 := b0.1 0 (.bool false) rfl
      have e0_1 := b0.1 1 (.slice A L c) rfl
      clear hw0 b0 y0
      go_wp2_with fail
      refine (HC.out _ x0).mono ?_
      rintro e w' ⟨rfl, x1⟩
      have e0_0 := x1.cell e0_0
      have e0_1 := x1.cell e0_1
      go_wp2_with fail
      go_ret2
      exact ⟨rfl, x0.trans x1⟩
    · have a1 := n1 rfl
      have hn : 9223372036854775808 < x.natAbs := by omega
      clear n1 p1 hx a1
      generalize x.natAbs = n at *
      go_enter Try.func35, Try.ntmps35
      go_wp2_with fail
      obtain ⟨w0, hw0⟩ : ∃ z : World, z = (w.alloc (.cells #[.bool true, .slice A L c] 25)) := ⟨_, rfl⟩
      rw [← hw0]
      have b0 := box_at w #[.bool true, .slice A L c] 25
      have hsz : w0.heap.size = w.heap.size + 1 := by rw [hw0]; simp
      rw [← hw0] at b0
      have y0 : Ext w w0 := by rw [hw0]; exact Ext.alloc _ _
      have x0 : Ext w w0 := y0
      have e0_0 := b0.1 0 (.bool true) rfl
      have e0_1 := b0.1 1 (.slice A L c) rfl
      clear hw0 b0 y0
      go_wp2_with fail
      refine (HC.out _ x0).mono ?_
      rintro e w' ⟨rfl, x1⟩
      have e0_0 := x1.cell e0_0
      have e0_1 := x1.cell e0_1
      go_wp2_with fail
      go_ret2
      exact ⟨rfl, x0.trans x1⟩
  · have HC : Hid (∀ w', Ext w w' → Calls Try.prog 59 #[.slice A L c] w' fun e w'' => e = .returned (.tuple #[.int .u64 0, .bool false]) ∧ Ext w' w'') := fun w' hx => by
      refine (uint64_no_v (h.nv.ext hx) hge).mono ?_
      rintro e w'' ⟨rfl, hq⟩
      exact ⟨rfl, hq.ext⟩
    clear h hx hge
    go_enter Try.func35, Try.ntmps35
    go_wp2_with fail
    obtain ⟨w0, hw0⟩ : ∃ z : World, z = (w.alloc (.cells #[.bool s, .slice A L c] 25)) := ⟨_, rfl⟩
    rw [← hw0]
    have b0 := box_at w #[.bool s, .slice A L c] 25
    have hsz : w0.heap.size = w.heap.size + 1 := by rw [hw0]; simp
    rw [← hw0] at b0
    have y0 : Ext w w0 := by rw [hw0]; exact Ext.alloc _ _
    have x0 : Ext w w0 := y0
    have e0_0 := b0.1 0 (.bool s) rfl
    have e0_1 := b0.1 1 (.slice A L c) rfl
    clear hw0 b0 y0
    go_wp2_with fail
    refine (HC.out _ x0).mono ?_
    rintro e w' ⟨rfl, x1⟩
    have e0_0 := x1.cell e0_0
    have e0_1 := x1.cell e0_1
    go_wp2_with fail
    go_ret2
    exact ⟨rfl, x0.trans x1⟩
end Go.Proofs.Ytcccabgeoaidjaa
