/- Contracts of natural.Shr, Shl, BitLen, Bit. -/
import Derived.Test.YtjhknnioefipmaaNatC
namespace Go.Proofs.Ytjhknnioefipmaa
open Go.RowKit

/-- The head of a round of 'Shr': the digits so far. -/
def ShrInv (w wr : World) (g i s : Nat) (ts : List Nat) : Prop :=
  ∃ zs, Row wr g .u32 69 zs ∧ zs.length = ts.length ∧ zs.take i = (shrD s ts).take i ∧ Ext w wr

theorem ShrInv.step {w wr : World} {g i s : Nat} {v : Int} {ts : List Nat} (h : ShrInv w wr g i s ts) (hi : i < ts.length) (hg : w.heap.size ≤ g) (hv : v = (((ts[i] + 4294967296 * (ts[i + 1]?.getD 0)) / 2 ^ s % 4294967296 : Nat) : Int)) :
    ShrInv w (wr.setCell ⟨g, i, none⟩ (.int .u32 v)) g (i + 1) s ts := by
  subst hv
  obtain ⟨zs, hz, hl, he, hext⟩ := h
  refine ⟨zs.set i _, hz.set_ _ _, by simpa using hl, ?_, Below.setCell hext (p := ⟨g, i, none⟩) hg _⟩
  have hi2 : i < (shrD s ts).length := by rw [shrD_length]; exact hi
  rw [take_set_lt (by omega), List.take_succ_eq_append_getElem hi2, he, shrD_get s ts i hi2]

theorem or_digits {x y : Nat} (hx : x < 4294967296) (hy : y < 4294967296) : bits BinOp.or IntKind.u64 (x : Int) ((y : Int) * 4294967296) = ((x + 4294967296 * y : Nat) : Int) := by
  have h := u64_or_nat x (y * 4294967296) (by omega) (by omega)
  rw [Nat.or_comm, hi_lo y x hx] at h
  rw [show ((y * 4294967296 : Nat) : Int) = (y : Int) * 4294967296 from by omega] at h
  rw [h]
  congr 1
  omega

end Go.Proofs.Ytjhknnioefipmaa
