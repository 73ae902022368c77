/- Laws of single operations over rows of numbers: make, copy, append of one element, a new cell. -/
import Derived.Laws.CopyOwn
import Derived.OwnWalk
import Derived.Test.YtfnmbhjifdfibaaMem
namespace Go.Proofs.Ytfnmbhjifdfibaa
open Go.RowKit

theorem made_nums (k : IntKind) (n : Nat) : madeCells (Value.int k 0).cells n = (nums k (List.replicate n 0)).toArray := by
  unfold madeCells nums
  apply Array.ext
  · simp
  · intro i h1 h2
    have : i % 1 = 0 := Nat.mod_one i
    simp [Value.cells]
    rw [this]
    rfl

section
variable {P : Program} {w : World} {ops : Array Oper} {rest : List Oper} {o : Oper} {a : Act} {Q : Exit → Act → World → Prop}

/-- 'make([]T, n)', T an integer type. -/
theorem wpList_mkrow (hgd : o.guard = none) (l c : Operand) (t : TypeId) (hop : o.op = Op.makeSlice t l c) (e : TypeId) (k : IntKind) (by_ : Nat)
    (h1 : P.underlying t = some (.slice e)) (h2 : (P.info? e).map (fun i => (i.zero, i.size, i.bytes)) = some (some (.int k 0), 1, by_)) (h5 : by_ ≤ 8)
    (kl kc : IntKind) (C : Int) (n : Nat) (hl : a.eval l = .int kl C) (hc : a.eval c = .int kc C) (hC : C = (n : Int)) (b : n ≤ 35184372088832)
    (hK : ∀ g w', w.heap.size ≤ g → Row w' g k e (List.replicate n 0) → Ext w w' → wpList P ops Q rest (a.put o.dst (.slice (some ⟨g, 0, none⟩) n n)) w') :
    wpList P ops Q (o :: rest) a w := by
  obtain ⟨i, hi, hz, hs, hb⟩ := info_parts h2
  refine wpList_plain hgd fun K hK' => ?_
  have hrun := run_make (P := P) w t e i (.int k 0) h1 hi hz kl kc n n (by omega) (by omega) (by have : i.bytes * n ≤ 8 * n := Nat.mul_le_mul_right _ (by omega); have e : ((i.bytes * n : Nat) : Int) = (i.bytes : Int) * (n : Int) := Int.natCast_mul _ _; omega) (by omega)
  subst hC
  unfold Oper.wp
  simp [execOp, hop, hl, hc, hrun, Result.andThen]
  refine hK' _ _ (hK _ _ (Nat.le_refl _) ?_ (Ext.alloc _ _))
  rw [hs, Nat.mul_one, made_nums]
  exact Row.new _ _ _ _

/-- 'copy(z, s)' into a row of the call's own. -/
theorem wpList_copyrow (hgd : o.guard = none) (d s : Operand) (dT sT : TypeId)
    (ho : o.op = .call { callee := .builtin .copy, args := #[d, s], argTypes := #[dT, sT] }) (elem : TypeId) (hu : P.underlying dT = some (.slice elem)) (hsz : (P.info? elem).map (·.size) = some 1)
    (g n c sc : Nat) (A : Option Addr) (k : IntKind) (T : TypeId) (zs ds : List Nat) (hd : a.eval d = .slice (some ⟨g, 0, none⟩) n c) (hs : a.eval s = .slice A ds.length sc)
    (hrow : Row w g k T zs) (hrd : Rd w k A ds) (hn : ds.length ≤ n) (hz : n ≤ zs.length)
    (h : ∀ w', Row w' g k T (ds ++ zs.drop ds.length) → Below g w w' → wpList P ops Q rest (a.put o.dst (goInt ds.length)) w') : wpList P ops Q (o :: rest) a w := by
  refine wpList_copy_splice hgd d s dT sT ho elem hu hsz (some ⟨g, 0, none⟩) A n c ds.length sc hd hs g 0 (nums k zs) T hrow (nums k ds) (by rw [nums_length]; exact (Nat.min_eq_left hn).symm) ?_ (by rw [nums_length, nums_length]; omega) (nums_one k ds) g w (Below.refl _ _) (Nat.le_refl _) ?_
  · rw [nums_length]
    intro hpos
    obtain ⟨b, off, rfl, _, _⟩ := hrd 0 hpos
    refine ⟨rfl, _, rfl, fun j v hj => ?_⟩
    rw [nums_get] at hj
    obtain ⟨dj, hdj, rfl⟩ := Option.map_eq_some_iff.1 hj
    obtain ⟨hlt, hget⟩ := List.getElem?_eq_some_iff.1 hdj
    obtain ⟨b', off', hA, _, hc⟩ := hrd j hlt
    injection hA with hA
    injection hA with hb hoff
    subst hb hoff
    have : (⟨b, off, none⟩ : Addr).add j = ⟨b, off + j, none⟩ := by unfold Addr.add; split <;> simp_all
    rw [this, hc, hget]
  · intro w' hw hb
    rw [nums_length]
    refine h w' ?_ hb
    have := hw.out
    unfold Row
    rw [this]
    simp [splice, nums, List.map_drop]
end
section
variable {P : Program} {w : World} {ops : Array Oper} {rest : List Oper} {o : Oper} {a : Act} {Q : Exit → Act → World → Prop}
theorem Own.block_ge {B c : Nat} {k : IntKind} {T : TypeId} {A : Option Addr} {ds : List Nat} (h : Own w B k T A c ds) : ∀ g, (Value.slice A ds.length c).ownBlock = some g → B ≤ g :=
  fun g hg => (World.ownsRow.lt h g hg).1
/-- 'append(s, v)': one element. -/
theorem wpList_app1 (hgd : o.guard = none) (s x : Operand) (t : TypeId) (ho : o.op = .call { callee := .builtin .append, args := #[s, x], argTypes := #[t, t] })
    (B : Nat) (e : TypeId) (k : IntKind) (by_ : Nat) (ht : P.underlying t = some (.slice e)) (hi : (P.info? e).map (fun i => (i.zero, i.size, i.bytes)) = some (some (.int k 0), 1, by_)) (hb8 : by_ ≤ 8)
    (A : Option Addr) (c n : Nat) (ds : List Nat) (hn : ds.length = n) (hs : a.eval s = .slice A n c) (hown : Own w B k e A c ds)
    (g : Nat) (v : Nat) (hx : a.eval x = .slice (some ⟨g, 0, none⟩) 1 1) (hc : w.cell? ⟨g, 0, none⟩ = some (.int k (v : Int)))
    (hlen : n ≤ 17592186044000) (hB : B ≤ w.heap.size)
    (h : ∀ A' c' w', Own w' B k e A' c' (ds ++ [v]) → Below B w w' → wpList P ops Q rest (a.put o.dst (.slice A' (n + 1) c')) w') : wpList P ops Q (o :: rest) a w := by
  subst hn
  obtain ⟨i, hi1, hz, hsz, hby⟩ := info_parts hi
  refine wpList_append_own w hgd s x t ho B e i (.int k 0) 1 by_ ht hi1 hz hsz hby rfl (by omega) _ ds.length (nums k ds) hs hown ⟨g, 0, none⟩ 1 1 (nums k [v]) hx (by simp [nums]) ?_ (nums_one k _) (by unfold maxLen; omega) ?_ hB ?_
  · intro j u hj
    match j, hj with
    | 0, hj => simp [nums] at hj; subst hj; simpa [Addr.add] using hc
    | j + 1, hj => simp [nums] at hj
  · have : (ds.length + 1) * by_ ≤ (ds.length + 1) * 8 := Nat.mul_le_mul_left _ hb8
    omega
  · intro v' w' how hgr hnil
    rw [← nums_append] at how
    have hl : ds.length + 1 = (ds ++ [v]).length := by simp
    rcases how.2 with ⟨hv, hn⟩ | ⟨g', cap, cur, hv, hg', hh, r⟩
    · omega
    · subst hv
      have hb : Below B w w' := (Below.refl B w).grown hgr hB (fun k hk => hown.block_ge k hk)
      have ho : Own w' B k e (some ⟨g', 0, none⟩) cap (ds ++ [v]) := by
        unfold Own
        rw [← hl]
        exact how
      exact h _ _ w' ho hb
end
end Go.Proofs.Ytfnmbhjifdfibaa
