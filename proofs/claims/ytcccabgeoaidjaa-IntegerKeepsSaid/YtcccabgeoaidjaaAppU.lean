/- append(s, x...) where x is of another named slice type. -/
import Derived.Test.YtcccabgeoaidjaaRefs
namespace Go.Proofs.Ytcccabgeoaidjaa
open Go.RowKit
/-- Of the second argument's type, append asks alone whether it is an integer. -/
theorem append_types {P : Program} {w : World} {t u ty e e2 : TypeId} {v x : Value} (ht : P.underlying t = some (.slice e)) (hu : P.underlying u = some (.slice e2)) :
    (Builtin.append_ #[t, u] ty #[v, x]).run P w = (Builtin.append_ #[t, t] ty #[v, x]).run P w := by
  cases v <;> simp [Builtin.append_, run_underlying ht, run_underlying hu]
theorem wp_types {P : Program} {w : World} {o : Oper} {a : Act} {K : Act → World → Prop} {Q : Exit → Act → World → Prop} {s x : Operand} {t u e e2 : TypeId} (ho : o.op = .call { callee := .builtin .append, args := #[s, x], argTypes := #[t, u] })
    (ht : P.underlying t = some (.slice e)) (hu : P.underlying u = some (.slice e2)) (h : Oper.wp P { o with op := .call { callee := .builtin .append, args := #[s, x], argTypes := #[t, t] } } a w K Q) : Oper.wp P o a w K Q := by
  unfold Oper.wp at h ⊢
  have h1 : (execOp a.eval o).run P w = (execOp a.eval { o with op := .call { callee := .builtin .append, args := #[s, x], argTypes := #[t, t] } }).run P w := by
    simp [execOp, ho, resolve, invoke, builtin, append_types ht hu]
  rw [h1]
  exact h
section
variable {P : Program} {w : World} {ops : Array Oper} {rest : List Oper} {o : Oper} {a : Act} {Q : Exit → Act → World → Prop}
/-- 'append(s, x...)': the elements of another slice. -/
theorem wpList_appU (hgd : o.guard = none) (s x : Operand) (t u : TypeId) (ho : o.op = .call { callee := .builtin .append, args := #[s, x], argTypes := #[t, u] })
    (B : Nat) (e : TypeId) (k : IntKind) (by_ : Nat) (ht : P.underlying t = some (.slice e)) (e2 : TypeId) (hu : P.underlying u = some (.slice e2)) (hi : (P.info? e).map (fun i => (i.zero, i.size, i.bytes)) = some (some (.int k 0), 1, by_)) (hb8 : by_ ≤ 8)
    (A : Option Addr) (c n : Nat) (ds : List Nat) (hn : ds.length = n) (hs : a.eval s = .slice A n c) (hown : Own w B k e A c ds)
    (X : Option Addr) (m c2 : Nat) (es : List Nat) (hm : es.length = m) (hx : a.eval x = .slice X m c2) (hrd : Rd w k X es) (hnz : X = none → c2 = 0)
    (hlen : n + m ≤ 17592186044000) (hB : B ≤ w.heap.size)
    (h : ∀ A' c' w', Own w' B k e A' c' (ds ++ es) → Below B w w' → wpList P ops Q rest (a.put o.dst (.slice A' (n + m) c')) w') : wpList P ops Q (o :: rest) a w := by
  subst hn
  subst hm
  obtain ⟨i, hi1, hz, hsz, hby⟩ := info_parts hi
  cases X with
  | none =>
    have hes : es = [] := by
      cases es with
      | nil => rfl
      | cons y ys => obtain ⟨_, _, h1, _⟩ := hrd 0 (by simp); cases h1
    subst hes
    rw [hnz rfl] at hx
    refine wpList_plain hgd fun K hK => wp_types ho ht hu ?_
    have hr := run_append_owned_none (P := P) (w := w) B t o.type e i 1 ht hi1 _ ds.length (nums k ds) hown
    have h' := h A c w (by rw [List.append_nil]; exact hown) (Below.refl _ _)
    unfold Oper.wp
    simp [execOp, resolve, invoke, builtin, hs, hx, hr, Result.andThen]
    exact hK _ _ h'
  | some ad =>
    refine wpList_plain hgd fun K hK => wp_types ho ht hu (wp_append_own (o := { o with op := .call { callee := .builtin .append, args := #[s, x], argTypes := #[t, t] } }) w s x t rfl B e i (.int k 0) 1 by_ ht hi1 hz hsz hby rfl (by omega) _ ds.length (nums k ds) hs hown ad es.length c2 (nums k es) hx (by simp [nums]) ?_ (nums_one k _) (by unfold maxLen; omega) ?_ hB ?_)
    · intro j u hj
      rw [nums_get] at hj
      obtain ⟨dj, hdj, rfl⟩ := Option.map_eq_some_iff.1 hj
      obtain ⟨hlt, hget⟩ := List.getElem?_eq_some_iff.1 hdj
      obtain ⟨b, off, hA, _, hc⟩ := hrd j hlt
      injection hA with hA
      subst hA
      have : (⟨b, off, none⟩ : Addr).add j = ⟨b, off + j, none⟩ := by unfold Addr.add; split <;> simp_all
      rw [this, hc, hget]
    · have : (ds.length + es.length) * by_ ≤ (ds.length + es.length) * 8 := Nat.mul_le_mul_left _ hb8
      omega
    · intro v' w' how hgr hnil
      rw [← nums_append] at how
      have hb : Below B w w' := (Below.refl B w).grown hgr hB (fun k hk => hown.block_ge k hk)
      have hl : ds.length + es.length = (ds ++ es).length := by simp
      rcases how.2 with ⟨hv, hn⟩ | ⟨g', cap, cur, hv, hg', hh, r⟩
      · subst hv
        have e0 : ds ++ es = [] := List.eq_nil_of_length_eq_zero (by rw [← hl]; exact hn)
        have := h none 0 w' (by rw [e0]; exact Own.none_ _ _ _ _) hb
        rw [hn] at this
        exact hK _ _ this
      · subst hv
        have ho : Own w' B k e (some ⟨g', 0, none⟩) cap (ds ++ es) := by
          unfold Own
          rw [← hl]
          exact how
        exact hK _ _ (h _ _ w' ho hb)
end
end Go.Proofs.Ytcccabgeoaidjaa
