/- Contracts of package cylinderref01, fifth part: shifts. -/
import Derived.Laws.AppendOwnNone
import Derived.Test.YtfnmbhjifdfibaaRefB
namespace Go.Proofs.Ytfnmbhjifdfibaa
open Go.RowKit

section
variable {P : Program} {w : World} {ops : Array Oper} {rest : List Oper} {o : Oper} {a : Act} {Q : Exit → Act → World → Prop}
/-- 'append(s, x...)': the elements of another slice. -/
theorem wpList_appN (hgd : o.guard = none) (s x : Operand) (t : TypeId) (ho : o.op = .call { callee := .builtin .append, args := #[s, x], argTypes := #[t, t] })
    (B : Nat) (e : TypeId) (k : IntKind) (by_ : Nat) (ht : P.underlying t = some (.slice e)) (hi : (P.info? e).map (fun i => (i.zero, i.size, i.bytes)) = some (some (.int k 0), 1, by_)) (hb8 : by_ ≤ 8)
    (A : Option Addr) (c n : Nat) (ds : List Nat) (hn : ds.length = n) (hs : a.eval s = .slice A n c) (hown : Own w B k e A c ds)
    (X : Option Addr) (m c2 : Nat) (es : List Nat) (hm : es.length = m) (hx : a.eval x = .slice X m c2) (hrd : Rd w k X es) (hnz : X = none → c2 = 0)
    (hlen : n + m ≤ 17592186044000) (hB : B ≤ w.heap.size)
    (h : ∀ A' c' w', Own w' B k e A' c' (ds ++ es) → Below B w w' → wpList P ops Q rest (a.put o.dst (.slice A' (n + m) c')) w') : wpList P ops Q (o :: rest) a w := by
  subst hn
  subst hm
  obtain ⟨i, hi1, hz, hsz, hby⟩ := info_parts hi
  cases X with
  | none =>
    have hes : es = [] := by
      cases es with
      | nil => rfl
      | cons y ys => obtain ⟨_, _, h1, _⟩ := hrd 0 (by simp); cases h1
    subst hes
    rw [hnz rfl] at hx
    refine wpList_append_own_none (w := w) hgd s x t ho B e i 1 ht hi1 _ ds.length (nums k ds) hs hown hx ?_
    have := h A c w (by rw [List.append_nil]; exact hown) (Below.refl _ _)
    exact this
  | some ad =>
    refine wpList_append_own w hgd s x t ho B e i (.int k 0) 1 by_ ht hi1 hz hsz hby rfl (by omega) _ ds.length (nums k ds) hs hown ad es.length c2 (nums k es) hx (by simp [nums]) ?_ (nums_one k _) (by unfold maxLen; omega) ?_ hB ?_
    · intro j u hj
      rw [nums_get] at hj
      obtain ⟨dj, hdj, rfl⟩ := Option.map_eq_some_iff.1 hj
      obtain ⟨hlt, hget⟩ := List.getElem?_eq_some_iff.1 hdj
      obtain ⟨b, off, hA, _, hc⟩ := hrd j hlt
      injection hA with hA
      subst hA
      have : (⟨b, off, none⟩ : Addr).add j = ⟨b, off + j, none⟩ := by unfold Addr.add; split <;> simp_all
      rw [this, hc, hget]
    · have : (ds.length + es.length) * by_ ≤ (ds.length + es.length) * 8 := Nat.mul_le_mul_left _ hb8
      omega
    · intro v' w' how hgr hnil
      rw [← nums_append] at how
      have hb : Below B w w' := (Below.refl B w).grown hgr hB (fun k hk => hown.block_ge k hk)
      have hl : ds.length + es.length = (ds ++ es).length := by simp
      rcases how.2 with ⟨hv, hn⟩ | ⟨g', cap, cur, hv, hg', hh, r⟩
      · subst hv
        have e0 : ds ++ es = [] := List.eq_nil_of_length_eq_zero (by rw [← hl]; exact hn)
        have := h none 0 w' (by rw [e0]; exact Own.none_ _ _ _ _) hb
        rw [hn] at this
        exact this
      · subst hv
        have ho : Own w' B k e (some ⟨g', 0, none⟩) cap (ds ++ es) := by
          unfold Own
          rw [← hl]
          exact how
        exact h _ _ w' ho hb
end

theorem zeros_digs {a : Nat} (m : Nat) (ha : a ≠ 0) : List.replicate m 0 ++ digs 2 a = digs 2 (a * 2 ^ m) := by
  have hv : Valid 2 (List.replicate m 0 ++ digs 2 a) := valid_append.2 ⟨valid_replicate (by omega) _, valid_digs (by omega) a⟩
  have he : val 2 (List.replicate m 0 ++ digs 2 a) = a * 2 ^ m := by
    rw [val_append, val_replicate, val_digs (by omega), List.length_replicate, Nat.zero_add, Nat.mul_comm]
  rw [← he, digs_of_val (by omega) hv]
  have h1 := getLast_digs (B := 2) (by omega) a
  intro h2
  have h3 : digs 2 a ≠ [] := fun h => ha (by have := val_digs (B := 2) (by omega) a; rw [h] at this; exact this.symm)
  obtain ⟨es, e, h4⟩ : ∃ es e, digs 2 a = es ++ [e] := ⟨_, _, (List.dropLast_concat_getLast h3).symm⟩
  rw [h4] at h1 h2
  simp at h1 h2
  exact h1 h2
theorem Own.bn {w : World} {B : Nat} {A : Option Addr} {c n : Nat} (h : Own w B .i64 3 A c (digs 2 n)) : BN w A c n := by
  have hle := Own.le h
  unfold maxLen at hle
  refine ⟨Own.rd h, hle.1, by omega, ?_, Own.ty h⟩
  rintro rfl
  rcases Own.form h with ⟨_, h1, _⟩ | ⟨_, _, h1, _⟩
  · exact h1
  · cases h1

theorem down_digs (a k : Nat) : (digs 2 a).drop k = digs 2 (a / 2 ^ k) := by
  have hv := valid_drop (valid_digs (B := 2) (by omega) a) k
  have h1 := val_drop_div (B := 2) (by omega) (valid_digs (B := 2) (by omega) a) k
  rw [val_digs (by omega)] at h1
  rw [← h1, digs_of_val (by omega) hv]
  intro h2
  have h3 := getLast_digs (B := 2) (by omega) a
  rw [List.getLast?_drop] at h2
  split at h2
  · cases h2
  · exact h3 h2

end Go.Proofs.Ytfnmbhjifdfibaa
