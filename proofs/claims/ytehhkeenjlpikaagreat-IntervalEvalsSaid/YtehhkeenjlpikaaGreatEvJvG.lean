/- A slice of fractions of the reference that grows: append of one. -/
import Derived.Test.YtehhkeenjlpikaaGreatEvJvF
import Derived.Deep.RegionWith
import Derived.Deep.AppendLies
namespace Go.Proofs.YtehhkeenjlpikaaGreat
open Go.RowKit
theorem info_Q : (Tryz.prog.info? 36).map (fun i => (i.zero, i.size, i.bytes)) = some (some (.agg #[.int .i64 0, .slice none 0 0, .int .i64 0, .slice none 0 0]), 4, 64) := by kernel_rfl
theorem Kept.grownQ {w w' : World} {row : Option Nat} {T : TypeId} (hg : w.grownBy w' row) (hT : ∀ k, row = some k → IsBox w k T) (hp : ¬ Plain T) : Kept w w' := fun b cur T' fr hh hpl => by
  refine hg.block b (Array.getElem?_eq_some_iff.1 hh).1 (fun e => ?_)
  obtain ⟨c1, f1, h1⟩ := hT b e.symm
  rw [h1] at hh
  injection hh with hh
  injection hh with _ e2
  subst e2
  exact hp hpl
theorem ownsRow_sameQ {w w' : World} {B : Nat} {e : TypeId} {size n : Nat} {v : Value} {xs : List Value} (h : w.ownsRow B e size v n xs) (hb : ∀ b, B ≤ b → b < w.heap.size → w'.heap[b]? = w.heap[b]?) : w'.ownsRow B e size v n xs := by
  refine ⟨h.1, ?_⟩
  rcases h.2 with h2 | ⟨g, cap, cur, hv, hg, hr, r⟩
  · exact .inl h2
  · exact .inr ⟨g, cap, cur, hv, hg, (hb g hg (Array.getElem?_eq_some_iff.1 hr).1).trans hr, r⟩
/-- The fractions of a list as the cells 'vals' say. -/
def FQ (w : World) (K : Nat) (qs : List Rat) (vals : List Value) : Prop := ∀ j (h : j < qs.length), ∃ g A c L h' B d M, vals[j * 4]? = some (.int .i64 g) ∧ vals[j * 4 + 1]? = some (.slice A L c) ∧ vals[j * 4 + 2]? = some (.int .i64 h') ∧ vals[j * 4 + 3]? = some (.slice B M d) ∧ QR w g A c L h' B d M K qs[j]
/-- A slice of fractions of the reference in a row of the call's own. -/
def GQ (w : World) (B K : Nat) (qs : List Rat) (A : Option Addr) (c : Nat) : Prop := ∃ vals, w.ownsRow B 36 4 (.slice A qs.length c) qs.length vals ∧ FQ w K qs vals
section
variable {w w' : World} {B K : Nat} {qs : List Rat} {A : Option Addr} {c : Nat}
theorem FQ.ext {vals : List Value} (h : FQ w K qs vals) (hx : Ext w w') : FQ w' K qs vals := fun j hj => by
  obtain ⟨g, A, c, L, h', B, d, M, h0, h1, h2, h3, h4⟩ := h j hj
  exact ⟨g, A, c, L, h', B, d, M, h0, h1, h2, h3, h4.ext hx⟩
theorem FQ.kept {vals : List Value} (h : FQ w K qs vals) (hx : Kept w w') : FQ w' K qs vals := fun j hj => by
  obtain ⟨g, A, c, L, h', B, d, M, h0, h1, h2, h3, h4⟩ := h j hj
  exact ⟨g, A, c, L, h', B, d, M, h0, h1, h2, h3, h4.kept hx⟩
theorem GQ.nil (w : World) (B K : Nat) : GQ w B K [] none 0 := ⟨[], ⟨rfl, .inl ⟨rfl, rfl⟩⟩, fun j hj => by cases hj⟩
theorem GQ.ext (h : GQ w B K qs A c) (hx : Ext w w') : GQ w' B K qs A c := by
  obtain ⟨vals, ho, hf⟩ := h
  exact ⟨vals, ownsRow_sameQ ho (fun b _ h2 => Below.block hx b h2), hf.ext hx⟩
theorem GQ.cql (h : GQ w B K qs A c) : CQL w A K qs := by
  obtain ⟨vals, ho, hf⟩ := h
  rcases ho.2 with ⟨h1, h2⟩ | ⟨g, cap, cur, hv, _⟩
  · refine ⟨0, 0, .inl (List.length_eq_zero_iff.1 h2), fun j hj => ?_⟩
    omega
  · injection hv with h1 _ h3
    subst h1 h3
    refine ⟨g, 0, .inr rfl, fun j hj => ?_⟩
    obtain ⟨g1, A1, c1, L1, h1, B1, d1, M1, e0, e1, e2, e3, hq⟩ := hf j hj
    have hl : vals.length = qs.length * 4 := ho.1
    refine ⟨g1, A1, c1, L1, h1, B1, d1, M1, ?_, ?_, ?_, ?_, hq⟩
    · rw [Nat.zero_add, World.ownsRow.cellAt ho (j * 4) (by omega)]; exact e0
    · rw [Nat.zero_add, World.ownsRow.cellAt ho (j * 4 + 1) (by omega)]; exact e1
    · rw [Nat.zero_add, World.ownsRow.cellAt ho (j * 4 + 2) (by omega)]; exact e2
    · rw [Nat.zero_add, World.ownsRow.cellAt ho (j * 4 + 3) (by omega)]; exact e3
end
section
variable {P : Program} {w : World} {ops : Array Oper} {rest : List Oper} {o : Oper} {a : Act} {Q : Exit → Act → World → Prop}
/-- 'append(s, v)': one struct of four cells. -/
theorem wpList_app1_4 (hgd : o.guard = none) (s x : Operand) (t : TypeId) (ho : o.op = .call { callee := .builtin .append, args := #[s, x], argTypes := #[t, t] })
    (B : Nat) (e : TypeId) (z : Value) (by_ : Nat) (ht : P.underlying t = some (.slice e)) (hi : (P.info? e).map (fun i => (i.zero, i.size, i.bytes)) = some (some z, 4, by_)) (hzs : z.cells.size = 4) (hb8 : by_ ≤ 64)
    (A : Option Addr) (c n : Nat) (vals : List Value) (hs : a.eval s = .slice A n c) (hown : w.ownsRow B e 4 (.slice A n c) n vals)
    (g : Nat) (v0 v1 v2 v3 : Value) (hx : a.eval x = .slice (some ⟨g, 0, none⟩) 1 1) (hc0 : w.cell? ⟨g, 0, none⟩ = some v0) (hc1 : w.cell? ⟨g, 1, none⟩ = some v1) (hc2 : w.cell? ⟨g, 2, none⟩ = some v2) (hc3 : w.cell? ⟨g, 3, none⟩ = some v3) (o0 : v0.oneCell' = true) (o1 : v1.oneCell' = true) (o2 : v2.oneCell' = true) (o3 : v3.oneCell' = true)
    (hlen : n ≤ 1000) (hB : B ≤ w.heap.size)
    (h : ∀ A' c' w', w'.ownsRow B e 4 (.slice A' (n + 1) c') (n + 1) (vals ++ [v0, v1, v2, v3]) → w.grownBy w' (Value.slice A n c).ownBlock → wpList P ops Q rest (a.put o.dst (.slice A' (n + 1) c')) w') : wpList P ops Q (o :: rest) a w := by
  obtain ⟨i, hi1, hz, hsz, hby⟩ := info_parts hi
  refine wpList_append_own w hgd s x t ho B e i z 4 by_ ht hi1 hz hsz hby hzs (by omega) _ n vals hs hown ⟨g, 0, none⟩ 1 1 [v0, v1, v2, v3] hx (by simp) ?_ ?_ (by unfold maxLen; omega) ?_ hB ?_
  · intro j u hj
    match j, hj with
    | 0, hj => simp at hj; subst hj; simpa [Addr.add] using hc0
    | 1, hj => simp at hj; subst hj; simpa [Addr.add] using hc1
    | 2, hj => simp at hj; subst hj; simpa [Addr.add] using hc2
    | 3, hj => simp at hj; subst hj; simpa [Addr.add] using hc3
    | j + 4, hj => simp at hj
  · intro u hu
    simp at hu
    rcases hu with rfl | rfl | rfl | rfl
    · exact o0
    · exact o1
    · exact o2
    · exact o3
  · have : (n + 1) * by_ ≤ (n + 1) * 64 := Nat.mul_le_mul_left _ hb8
    omega
  · intro v' w' how hgr _
    rcases how.2 with ⟨_, hn⟩ | ⟨g', cap, cur, hv, _⟩
    · omega
    · subst hv
      exact h _ _ w' how hgr
end
section
variable {w : World} {ops : Array Oper} {rest : List Oper} {o : Oper} {a : Act} {Q : Exit → Act → World → Prop}
/-- 'append(l, q)' to such a slice: what the new slice holds, and that nothing else has changed. -/
theorem wpList_GQ (hgd : o.guard = none) (s x : Operand) (ho : o.op = .call { callee := .builtin .append, args := #[s, x], argTypes := #[52, 52] })
    (B K : Nat) (qs : List Rat) (A : Option Addr) (c n : Nat) (hn : n = qs.length) (hs : a.eval s = .slice A n c) (hG : GQ w B K qs A c)
    (b : Nat) (g : Int) (A1 : Option Addr) (c1 L1 : Nat) (h1 : Int) (B1 : Option Addr) (d1 M1 : Nat) (q : Rat) (hx : a.eval x = .slice (some ⟨b, 0, none⟩) 1 1)
    (hc0 : w.cell? ⟨b, 0, none⟩ = some (.int .i64 g)) (hc1 : w.cell? ⟨b, 1, none⟩ = some (.slice A1 L1 c1)) (hc2 : w.cell? ⟨b, 2, none⟩ = some (.int .i64 h1)) (hc3 : w.cell? ⟨b, 3, none⟩ = some (.slice B1 M1 d1)) (hq : QR w g A1 c1 L1 h1 B1 d1 M1 K q)
    (hlen : n ≤ 1000) (hB : B ≤ w.heap.size)
    (h : ∀ A' c' w', GQ w' B K (qs ++ [q]) A' c' → Kept w w' → (∀ w0, Ext w0 w → w0.heap.size ≤ B → Ext w0 w') → wpList Tryz.prog ops Q rest (a.put o.dst (.slice A' (n + 1) c')) w') : wpList Tryz.prog ops Q (o :: rest) a w := by
  subst hn
  obtain ⟨vals, hown, hf⟩ := hG
  refine wpList_app1_4 hgd s x 52 ho B 36 _ 64 Tryz.underlying52 info_Q rfl (by omega) A c qs.length vals hs hown b _ _ _ _ hx hc0 hc1 hc2 hc3 rfl rfl rfl rfl hlen hB ?_
  intro A' c' w' hn hg
  have hrow : ∀ b, (Value.slice A qs.length c).ownBlock = some b → B ≤ b := fun b hb => (World.ownsRow.lt hown b hb).1
  have hbx : ∀ b, (Value.slice A qs.length c).ownBlock = some b → IsBox w b 36 := fun b hb => by
    rcases hown.2 with ⟨h1, h2⟩ | ⟨g', cap, cur, h1, h2, h3, _⟩
    · rw [h1] at hb; cases hb
    · rw [h1] at hb; injection hb with hb; subst hb; exact ⟨cur, _, h3⟩
  have Kp : Kept w w' := Kept.grownQ hg hbx plain_Q
  have hbl : Below B w w' := (Below.refl B w).grown hg hB (fun b hb => hrow b hb)
  refine h A' c' w' ⟨vals ++ [.int .i64 g, .slice A1 L1 c1, .int .i64 h1, .slice B1 M1 d1], ?_, ?_⟩ Kp (fun w0 hx0 hb0 => Ext.step hx0 hbl hb0)
  · rw [List.length_append]; exact hn
  · intro j hj
    have hl : vals.length = qs.length * 4 := hown.1
    rcases Nat.lt_or_ge j qs.length with hjk | hjk
    · obtain ⟨g2, A2, c2, L2, h2, B2, d2, M2, e0, e1, e2, e3, hq2⟩ := hf j hjk
      refine ⟨g2, A2, c2, L2, h2, B2, d2, M2, ?_, ?_, ?_, ?_, ?_⟩
      · rw [List.getElem?_append_left (by omega)]; exact e0
      · rw [List.getElem?_append_left (by omega)]; exact e1
      · rw [List.getElem?_append_left (by omega)]; exact e2
      · rw [List.getElem?_append_left (by omega)]; exact e3
      · rw [List.getElem_append_left hjk]; exact hq2.kept Kp
    · obtain rfl : j = qs.length := by rw [List.length_append] at hj; simp at hj; omega
      refine ⟨g, A1, c1, L1, h1, B1, d1, M1, ?_, ?_, ?_, ?_, ?_⟩
      · rw [List.getElem?_append_right (by omega), show qs.length * 4 - vals.length = 0 from by omega]; rfl
      · rw [List.getElem?_append_right (by omega), show qs.length * 4 + 1 - vals.length = 1 from by omega]; rfl
      · rw [List.getElem?_append_right (by omega), show qs.length * 4 + 2 - vals.length = 2 from by omega]; rfl
      · rw [List.getElem?_append_right (by omega), show qs.length * 4 + 3 - vals.length = 3 from by omega]; rfl
      · rw [List.getElem_append_right (Nat.le_refl _)]; simp only [Nat.sub_self, List.getElem_cons_zero]; exact hq.kept Kp
end
theorem GQ.two {w : World} {B K : Nat} {g1 h1 g2 h2 : Int} {A1 B1 A2 B2 : Option Addr} {c1 d1 L1 M1 c2 d2 L2 M2 : Nat} {q1 q2 : Rat} (hB : B ≤ w.heap.size) (e1 : QR w g1 A1 c1 L1 h1 B1 d1 M1 K q1) (e2 : QR w g2 A2 c2 L2 h2 B2 d2 M2 K q2) :
    GQ (w.alloc (.cells #[.int .i64 g1, .slice A1 L1 c1, .int .i64 h1, .slice B1 M1 d1, .int .i64 g2, .slice A2 L2 c2, .int .i64 h2, .slice B2 M2 d2] 36)) B K [q1, q2] (some ⟨w.heap.size, 0, none⟩) 2 := by
  refine ⟨[.int .i64 g1, .slice A1 L1 c1, .int .i64 h1, .slice B1 M1 d1, .int .i64 g2, .slice A2 L2 c2, .int .i64 h2, .slice B2 M2 d2], ⟨rfl, .inr ⟨w.heap.size, 2, #[.int .i64 g1, .slice A1 L1 c1, .int .i64 h1, .slice B1 M1 d1, .int .i64 g2, .slice A2 L2 c2, .int .i64 h2, .slice B2 M2 d2], rfl, hB, ?_, Nat.le_refl _, by unfold maxLen; omega, rfl, rfl⟩⟩, fun j hj => ?_⟩
  · show (w.heap.push _)[w.heap.size]? = _
    simp
  · match j, hj with
    | 0, _ => exact ⟨_, _, _, _, _, _, _, _, rfl, rfl, rfl, rfl, e1.ext (Ext.alloc _ _)⟩
    | 1, _ => exact ⟨_, _, _, _, _, _, _, _, rfl, rfl, rfl, rfl, e2.ext (Ext.alloc _ _)⟩
end Go.Proofs.YtehhkeenjlpikaaGreat
