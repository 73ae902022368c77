/- Append of one element, with the news where the new slice lies: in the same block, or in a fresh one. -/
import Derived.Test.YtfnmbhjifdfibaaRefA
namespace Go.Proofs.Ytfnmbhjifdfibaa
open Go.RowKit

/-- The new slice of an append lies in the old block, or in a fresh one. -/
def Near (w : World) (A A' : Option Addr) : Prop := A' = A ∨ ∃ g, A' = some ⟨g, 0, none⟩ ∧ w.heap.size ≤ g
section
variable {P : Program} {w : World} {ops : Array Oper} {rest : List Oper} {o : Oper} {a : Act} {Q : Exit → Act → World → Prop}
theorem run_append_near (base : Nat) (t ty e : TypeId) (i : TypeInfo) (z : Value) (size bytes : Nat) (ht : P.underlying t = some (.slice e)) (hi : P.info? e = some i) (hz : i.zero = some z)
    (hsize : i.size = size) (hby : i.bytes = bytes) (hzs : z.cells.size = size) (hsz : 0 < size)
    (A0 : Option Addr) (n c0 : Nat) (xs : List Value) (hown : w.ownsRow base e size (.slice A0 n c0) n xs)
    (ad : Addr) (m c : Nat) (news : List Value) (hl : news.length = m * size) (hnews : ∀ j u, news[j]? = some u → w.cell? (ad.add j) = some u) (h1 : ∀ u ∈ news, u.oneCell' = true)
    (h63 : n + m ≤ maxLen) (hbytes : (n + m) * bytes ≤ 140737488355328) (hbase : base ≤ w.heap.size) (hm : 0 < m) :
    ∃ A' c' w', (Builtin.append_ #[t, t] ty #[.slice A0 n c0, .slice (some ad) m c]).run P w = .ok (.slice A' (n + m) c') w' ∧ w'.ownsRow base e size (.slice A' (n + m) c') (n + m) (xs ++ news) ∧ w.grownBy w' (Value.slice A0 n c0).ownBlock ∧ Near w A0 A' := by
  obtain ⟨v', w', hr, h2, h3, h4⟩ := run_append_own (P := P) w base t ty e i z size bytes ht hi hz hsize hby hzs hsz _ n xs hown ad m c news hl hnews h1 h63 hbytes hbase
  have h2' := h2
  subst hsize
  subst hby
  have hsmall : n + m ≤ 9223372036854775807 := by simp only [maxLen] at h63; omega
  rcases h2.2 with ⟨rfl, h0⟩ | ⟨g', cap', cur', rfl, _⟩
  · omega
  · refine ⟨_, _, w', hr, h2', h3, ?_⟩
    rcases hown.2 with ⟨hv, hn⟩ | ⟨g, cap, cur, hv, hbg, hg, hnc, hcm, hcs, htake⟩
    · injection hv with hA hn0 hc0
      subst hA hn0 hc0
      have hx : xs = [] := List.eq_nil_of_length_eq_zero (by simpa using hown.1)
      subst hx
      have hr' := run_append_nil (P := P) w t ty e i z ht hi hz ad m c news hl hnews (by omega) (by omega) (by have hb := hbytes; simp only [Nat.zero_add] at hb; omega)
      rw [hr'] at hr
      injection hr with hr1 hr2
      injection hr1 with hA _ _
      exact .inr ⟨g', rfl, by injection hA with hA; injection hA with hA; omega⟩
    · injection hv with hA _ hc0
      subst hA hc0
      by_cases hroom : n + m ≤ c0
      · have hfit : n * i.size + news.length ≤ cur.size := by rw [hl, hcs, ← Nat.add_mul]; exact Nat.mul_le_mul_right _ hroom
        have hr' := run_append_room (P := P) w t ty e i ht hi g n c0 cur hg ad m c news hl hnews h1 hroom hfit
        rw [hr'] at hr
        injection hr with hr1 hr2
        injection hr1 with hA _ _
        exact .inl hA.symm
      · have holds : ∀ j u, xs[j]? = some u → w.cell? ((⟨g, 0, none⟩ : Addr).add j) = some u := hown.cells (g := g) rfl
        have hr' := run_append_grow (P := P) w t ty e i z ht hi hz ⟨g, 0, none⟩ n c0 xs hown.1 holds ad m c news hl hnews (by omega) (by omega) (growslice_fits (by omega) hbytes)
        rw [hr'] at hr
        injection hr with hr1 hr2
        injection hr1 with hA _ _
        exact .inr ⟨g', rfl, by injection hA with hA; injection hA with hA; omega⟩
/-- 'append(s, v)': one element; where the new slice lies. -/
theorem wpList_app1n (hgd : o.guard = none) (s x : Operand) (t : TypeId) (ho : o.op = .call { callee := .builtin .append, args := #[s, x], argTypes := #[t, t] })
    (B : Nat) (e : TypeId) (k : IntKind) (by_ : Nat) (ht : P.underlying t = some (.slice e)) (hi : (P.info? e).map (fun i => (i.zero, i.size, i.bytes)) = some (some (.int k 0), 1, by_)) (hb8 : by_ ≤ 8)
    (A : Option Addr) (c n : Nat) (ds : List Nat) (hn : ds.length = n) (hs : a.eval s = .slice A n c) (hown : Own w B k e A c ds)
    (g : Nat) (v : Nat) (hx : a.eval x = .slice (some ⟨g, 0, none⟩) 1 1) (hc : w.cell? ⟨g, 0, none⟩ = some (.int k (v : Int)))
    (hlen : n ≤ 17592186044000) (hB : B ≤ w.heap.size)
    (h : ∀ A' c' w', Own w' B k e A' c' (ds ++ [v]) → w.grownBy w' (Value.slice A n c).ownBlock → Near w A A' → wpList P ops Q rest (a.put o.dst (.slice A' (n + 1) c')) w') : wpList P ops Q (o :: rest) a w := by
  subst hn
  obtain ⟨i, hi1, hz, hsz, hby⟩ := info_parts hi
  refine wpList_plain hgd fun K hK => ?_
  have hb : (ds.length + 1) * by_ ≤ (ds.length + 1) * 8 := Nat.mul_le_mul_left _ hb8
  obtain ⟨A', c', w', hr, h2, h3, h4⟩ := run_append_near (P := P) B t o.type e i (.int k 0) 1 by_ ht hi1 hz hsz hby rfl (by omega) A ds.length c (nums k ds) hown ⟨g, 0, none⟩ 1 1 (nums k [v]) (by simp [nums]) (fun j u hj => by
    match j, hj with
    | 0, hj => simp [nums] at hj; subst hj; simpa [Addr.add] using hc
    | j + 1, hj => simp [nums] at hj) (nums_one k _) (by unfold maxLen; omega) (by omega) hB (by omega)
  unfold Oper.wp execOp
  simp only [ho, resolve, invoke, builtin, Sem.run_bind, Sem.run_pure, Result.andThen_ok, List.map_toArray, List.map_cons, List.map_nil, hs, hx, hr]
  refine hK _ _ (h A' c' w' ?_ h3 h4)
  rw [← nums_append] at h2
  unfold Own
  have hl : (ds ++ [v]).length = ds.length + 1 := by simp
  rw [hl]
  exact h2
end
/-- Nothing below B has changed, nor anything from N on that was there in w2; the slice at A lies below N or behind w2. -/
structure Mid (B N : Nat) (w2 wr : World) (A : Option Addr) : Prop where
  below : Below B w2 wr
  mid : ∀ k, N ≤ k → k < w2.heap.size → wr.heap[k]? = w2.heap[k]?
  size : w2.heap.size ≤ wr.heap.size
  far : ∀ g o s, A = some ⟨g, o, s⟩ → B ≤ g ∧ (g < N ∨ w2.heap.size ≤ g)
theorem Mid.start {B N c : Nat} {w w2 : World} {A : Option Addr} {k : IntKind} {T : TypeId} {ds : List Nat} (ho : Own w B k T A c ds) (hN : w.heap.size = N) : Mid B N w2 w2 A := by
  refine ⟨Below.refl _ _, fun _ _ _ => rfl, Nat.le_refl _, fun g o s e => ?_⟩
  rcases ho.form with ⟨h1, _⟩ | ⟨g', cur, h1, hB, hh, _⟩
  · rw [h1] at e; cases e
  · rw [h1] at e
    injection e with e
    injection e with e1
    subst e1
    exact ⟨hB, .inl (by rw [← hN]; exact (Array.getElem?_eq_some_iff.1 hh).1)⟩
theorem Mid.grown {B N n c : Nat} {w2 wr wx w3 : World} {A A' : Option Addr} (h : Mid B N w2 wr A) (hB : B ≤ w2.heap.size) (hx : Ext wr wx) (hg : wx.grownBy w3 (Value.slice A n c).ownBlock) (hn : Near wx A A') : Mid B N w2 w3 A' := by
  have hs := hx.size
  have hgs := hg.size
  have hne : ∀ k, (k < B ∨ (N ≤ k ∧ k < w2.heap.size)) → some k ≠ (Value.slice A n c).ownBlock := by
    intro k hk e
    cases A with
    | none => cases e
    | some p =>
      obtain ⟨g, o, s⟩ := p
      have := h.far g o s rfl
      injection e with e
      simp at e
      omega
  have hs2 := h.size
  refine ⟨⟨hg.os.trans (hx.os.trans h.below.os), hg.tape.trans (hx.tape.trans h.below.tape), hg.output.trans (hx.output.trans h.below.output), by omega, fun k hk => ?_⟩, fun k h1 h2 => ?_, by omega, fun g o s e => ?_⟩
  · exact (hg.block k (by omega) (hne k (.inl hk))).trans ((hx.block k (by omega)).trans (h.below.block k hk))
  · exact (hg.block k (by omega) (hne k (.inr ⟨h1, h2⟩))).trans ((hx.block k (by omega)).trans (h.mid k h1 h2))
  · rcases hn with rfl | ⟨g', rfl, hg'⟩
    · exact h.far g o s e
    · injection e with e
      injection e with e1
      subst e1
      exact ⟨by omega, .inr (by omega)⟩
/-- What was made in the middle is kept. -/
theorem Own.mid {B N c : Nat} {w2 wr : World} {A A7 : Option Addr} {k : IntKind} {T : TypeId} {ds : List Nat} (ho : Own w2 N k T A c ds) (h : Mid B N w2 wr A7) : Own wr N k T A c ds := by
  refine ⟨ho.1, ?_⟩
  rcases ho.2 with h2 | ⟨g, cap, cur, hv, hg, hh, r⟩
  · exact .inl h2
  · exact .inr ⟨g, cap, cur, hv, hg, (h.mid g hg (Array.getElem?_eq_some_iff.1 hh).1).trans hh, r⟩
end Go.Proofs.Ytfnmbhjifdfibaa
