/- The contracts of package natural over slices of any length with a value. -/
import Derived.Test.YtfnmbhjifdfibaaLaw1
namespace Go.Proofs.Ytfnmbhjifdfibaa
open Go.RowKit

/-- A slice of L digits, not necessarily without leading zeros, whose value is n. -/
def NV (w : World) (A : Option Addr) (c L n : Nat) : Prop := ∃ ds : List Nat, ds.length = L ∧ V ds = n ∧ NR w A c ds

section
variable {w w' : World} {A A1 A2 : Option Addr} {B c c1 c2 L L1 L2 n n1 n2 : Nat}
theorem NR.nv {ds : List Nat} (h : NR w A c ds) : NV w A c ds.length (V ds) := ⟨ds, rfl, rfl, h⟩
theorem NO.nv (h : NO w B A c n) : NV w A c (digs B32 n).length n := ⟨digs B32 n, rfl, val_digs B32_two n, h.nr⟩
theorem NV.ext (h : NV w A c L n) (hx : Ext w w') : NV w' A c L n := by
  obtain ⟨ds, h1, h2, h3⟩ := h
  exact ⟨ds, h1, h2, h3.ext hx⟩
theorem NV.le (h : NV w A c L n) : L ≤ c := by obtain ⟨ds, rfl, _, h3⟩ := h; exact h3.le
theorem NV.cap (h : NV w A c L n) : c ≤ 9223372036854775807 := by obtain ⟨ds, _, _, h3⟩ := h; exact h3.cap
theorem NV.dl (h : NV w A c L n) : dl n ≤ L := by obtain ⟨ds, rfl, rfl, h3⟩ := h; exact len_V h3.valid
theorem NV.bl (h : NV w A c L n) : bl n ≤ 32 * L := by obtain ⟨ds, rfl, rfl, h3⟩ := h; exact bl_V h3.valid

theorem normal_v (h : NV w A c L n) (hs : Go.Proofs.Ytfnmbhjifdfibaa.dl n ≤ 35184372088832) : Calls Try.prog 110 #[.slice A L c] w (RetN w n) := by
  obtain ⟨ds, rfl, rfl, h3⟩ := h
  exact normal_any h3 hs
theorem isZero_v (h : NV w A c L n) : Calls Try.prog 81 #[.slice A L c] w fun e w' => e = .returned (.bool (n == 0)) ∧ w = w' := by
  obtain ⟨ds, rfl, rfl, h3⟩ := h
  exact isZero_any h3
theorem uint64_yes_v (h : NV w A c L n) (hlt : n < 18446744073709551616) : Calls Try.prog 122 #[.slice A L c] w fun e w' => e = .returned (.tuple #[.int .u64 n, .bool true]) ∧ Qt w w' := by
  obtain ⟨ds, rfl, rfl, h3⟩ := h
  exact uint64_yes h3 hlt
theorem uint64_no_v (h : NV w A c L n) (hge : 18446744073709551616 ≤ n) : Calls Try.prog 122 #[.slice A L c] w fun e w' => e = .returned (.tuple #[.int .u64 0, .bool false]) ∧ Qt w w' := by
  obtain ⟨ds, rfl, rfl, h3⟩ := h
  exact uint64_no h3 hge
theorem cmp_v (h1 : NV w A1 c1 L1 n1) (h2 : NV w A2 c2 L2 n2) : Calls Try.prog 99 #[.slice A1 L1 c1, .slice A2 L2 c2] w fun e w' => e = .returned (.int .i64 (cmpN n1 n2)) ∧ Qt w w' := by
  obtain ⟨d1, rfl, rfl, h1⟩ := h1
  obtain ⟨d2, rfl, rfl, h2⟩ := h2
  exact cmp_any h1 h2
theorem cmp_eq_v (h1 : NV w A1 c1 L1 n1) (h2 : NV w A2 c2 L2 n2) (he : n1 = n2) : Calls Try.prog 99 #[.slice A1 L1 c1, .slice A2 L2 c2] w fun e w' => e = .returned (.int .i64 0) ∧ Qt w w' := by
  have := cmp_v h1 h2
  rwa [he, cmpN_eq] at this
theorem add_v (h1 : NV w A1 c1 L1 n1) (h2 : NV w A2 c2 L2 n2) (hs : Go.Proofs.Ytfnmbhjifdfibaa.dl n1 ≤ 17592186044416) (hs2 : Go.Proofs.Ytfnmbhjifdfibaa.dl n2 ≤ 17592186044416) : Calls Try.prog 98 #[.slice A1 L1 c1, .slice A2 L2 c2] w (RetN w (n1 + n2)) := by
  obtain ⟨d1, rfl, rfl, h1⟩ := h1
  obtain ⟨d2, rfl, rfl, h2⟩ := h2
  exact add_any h1 h2 hs hs2
theorem sub_yes_v (h1 : NV w A1 c1 L1 n1) (h2 : NV w A2 c2 L2 n2) (hs : Go.Proofs.Ytfnmbhjifdfibaa.dl n1 ≤ 17592186044416) (hge : n2 ≤ n1) : Calls Try.prog 100 #[.slice A1 L1 c1, .slice A2 L2 c2] w (RetNT w (n1 - n2)) := by
  obtain ⟨d1, rfl, rfl, h1⟩ := h1
  obtain ⟨d2, rfl, rfl, h2⟩ := h2
  exact sub_yes h1 h2 hs hge
theorem sub_no_v (h1 : NV w A1 c1 L1 n1) (h2 : NV w A2 c2 L2 n2) (hlt : n1 < n2) : Calls Try.prog 100 #[.slice A1 L1 c1, .slice A2 L2 c2] w fun e w' => e = .returned (.tuple #[.slice none 0 0, .bool false]) ∧ Ext w w' := by
  obtain ⟨d1, rfl, rfl, h1⟩ := h1
  obtain ⟨d2, rfl, rfl, h2⟩ := h2
  exact sub_no h1 h2 hlt
theorem mul_v (h1 : NV w A1 c1 L1 n1) (h2 : NV w A2 c2 L2 n2) (hs : Go.Proofs.Ytfnmbhjifdfibaa.dl n1 + Go.Proofs.Ytfnmbhjifdfibaa.dl n2 ≤ 17592186044416) (hm : min (Go.Proofs.Ytfnmbhjifdfibaa.dl n1) (Go.Proofs.Ytfnmbhjifdfibaa.dl n2) < 48) : Calls Try.prog 96 #[.slice A1 L1 c1, .slice A2 L2 c2] w (RetN w (n1 * n2)) := by
  obtain ⟨d1, rfl, rfl, h1⟩ := h1
  obtain ⟨d2, rfl, rfl, h2⟩ := h2
  exact mul_any h1 h2 hs hm
theorem mulAdd_v {m k : Nat} (h : NV w A c L n) (hm : m < 4294967296) (hc : k < 4294967296) (hs : Go.Proofs.Ytfnmbhjifdfibaa.dl n ≤ 17592186044416) : Calls Try.prog 142 #[.slice A L c, .int .u32 m, .int .u32 k] w (RetN w (n * m + k)) := by
  obtain ⟨ds, rfl, rfl, h3⟩ := h
  exact mulAdd_any h3 hm hc hs
theorem divSmall_v {d : Nat} (h : NV w A c L n) (hd0 : 0 < d) (hd : d < 4294967296) (hs : Go.Proofs.Ytfnmbhjifdfibaa.dl n ≤ 17592186044416) : Calls Try.prog 130 #[.slice A L c, .int .u32 d] w (RetDS w (n / d) (n % d)) := by
  obtain ⟨ds, rfl, rfl, h3⟩ := h
  exact divSmall_any h3 hd0 hd hs
theorem rof_v (h : NV w A c L n) (hs : L ≤ 274877906944) : Calls Try.prog 71 #[.slice A L c] w (RetB w n) := by
  obtain ⟨ds, rfl, rfl, h3⟩ := h
  exact rof_any h3 hs
end
end Go.Proofs.Ytfnmbhjifdfibaa
