/- Contracts of package cylinderref01, fourth part: DivMod. -/
import Derived.Maps.AppendAt
import Derived.Test.YtjhknnioefipmaaRefC
namespace Go.Proofs.Ytjhknnioefipmaa
open Go.RowKit

theorem Own.far {w w' : World} {B g c : Nat} {k : IntKind} {T : TypeId} {ds : List Nat} (h : Own w B k T (some ⟨g, 0, none⟩) c ds) (hh : w'.heap[g]? = w.heap[g]?) : Own w' B k T (some ⟨g, 0, none⟩) c ds := by
  refine ⟨h.1, ?_⟩
  rcases h.2 with ⟨hv, _⟩ | ⟨g', cap, cur, hv, hg, hr, r⟩
  · injection hv with h1; cases h1
  · have hv' := hv
    injection hv' with h1
    injection h1 with h1
    injection h1 with h1
    subst h1
    exact .inr ⟨g, cap, cur, hv, hg, hh.trans hr, r⟩

section
variable {P : Program} {w : World} {ops : Array Oper} {rest : List Oper} {o : Oper} {a : Act} {Q : Exit → Act → World → Prop}
/-- 'append(s, v)': one element; where the row lies behind it. -/
theorem wpList_app1_at (hgd : o.guard = none) (s x : Operand) (t : TypeId) (ho : o.op = .call { callee := .builtin .append, args := #[s, x], argTypes := #[t, t] })
    (B : Nat) (e : TypeId) (k : IntKind) (by_ : Nat) (ht : P.underlying t = some (.slice e)) (hi : (P.info? e).map (fun i => (i.zero, i.size, i.bytes)) = some (some (.int k 0), 1, by_)) (hb8 : by_ ≤ 8)
    (g0 c n : Nat) (ds : List Nat) (hn : ds.length = n) (hs : a.eval s = .slice (some ⟨g0, 0, none⟩) n c) (hown : Own w B k e (some ⟨g0, 0, none⟩) c ds)
    (g : Nat) (v : Nat) (hx : a.eval x = .slice (some ⟨g, 0, none⟩) 1 1) (hc : w.cell? ⟨g, 0, none⟩ = some (.int k (v : Int)))
    (hlen : n ≤ 17592186044000) (hB : B ≤ w.heap.size)
    (h : ∀ g' c' w', Own w' B k e (some ⟨g', 0, none⟩) c' (ds ++ [v]) → (g' = g0 ∨ g' = w.heap.size) → (∀ j, j < w.heap.size → j ≠ g0 → w'.heap[j]? = w.heap[j]?) → Below B w w' →
      wpList P ops Q rest (a.put o.dst (.slice (some ⟨g', 0, none⟩) (n + 1) c')) w') : wpList P ops Q (o :: rest) a w := by
  subst hn
  obtain ⟨i, hi1, hz, hsz, hby⟩ := info_parts hi
  refine wpList_append_own_at (w := w) hgd s x t ho B e i (.int k 0) 1 by_ ht hi1 hz hsz hby rfl (by omega) _ ds.length (nums k ds) hs hown ⟨g, 0, none⟩ 1 1 (nums k [v]) hx (by simp [nums]) ?_ (nums_one k _) (by unfold maxLen; omega) ?_ hB ?_
  · intro j u hj
    match j, hj with
    | 0, hj => simp [nums] at hj; subst hj; simpa [Addr.add] using hc
    | j + 1, hj => simp [nums] at hj
  · have : (ds.length + 1) * by_ ≤ (ds.length + 1) * 8 := Nat.mul_le_mul_left _ hb8
    omega
  · intro v' w' how hgr hnil hat
    rw [← nums_append] at how
    have hl : ds.length + 1 = (ds ++ [v]).length := by simp
    rcases how.2 with ⟨hv, hn⟩ | ⟨g', cap, cur, hv, hg', hh, r⟩
    · omega
    · subst hv
      have hb : Below B w w' := (Below.refl B w).grown hgr hB (fun k hk => hown.block_ge k hk)
      have ho : Own w' B k e (some ⟨g', 0, none⟩) cap (ds ++ [v]) := by
        unfold Own
        rw [← hl]
        exact how
      refine h _ _ w' ho ?_ ?_ hb
      · rcases hat with h1 | h1
        · left; injection h1
        · right; injection h1
      · intro j hj hne
        refine hgr.block j hj (fun e => hne ?_)
        injection e
end

/-- The memory of 'DivMod': quotient bits, remainder, divisor. -/
structure DS (w wr : World) (gq gr gd cd : Nat) (qs rs ds : List Nat) : Prop where
  q : Row wr gq .i64 3 qs
  r : Row wr gr .i64 3 rs
  d : Own wr 0 .i64 3 (some ⟨gd, 0, none⟩) cd ds
  ext : Ext w wr
  qr : gq ≠ gr
  qd : gq ≠ gd
  rd : gr ≠ gd
  bq : w.heap.size ≤ gq
  br : w.heap.size ≤ gr
theorem DS.setQ {w wr : World} {gq gr gd cd : Nat} {qs rs ds : List Nat} (h : DS w wr gq gr gd cd qs rs ds) (i v : Nat) :
    DS w (wr.setCell ⟨gq, i, none⟩ (.int .i64 (v : Int))) gq gr gd cd (qs.set i v) rs ds :=
  ⟨h.q.set_ _ _, h.r.far (p := ⟨gq, i, none⟩) (Ne.symm h.qr) _, h.d.far (Below.heap_setCell wr ⟨gq, i, none⟩ _ gd (Ne.symm h.qd)), Below.setCell h.ext (p := ⟨gq, i, none⟩) h.bq _, h.qr, h.qd, h.rd, h.bq, h.br⟩
theorem DS.setR {w wr : World} {gq gr gd cd : Nat} {qs rs ds : List Nat} (h : DS w wr gq gr gd cd qs rs ds) (i v : Nat) :
    DS w (wr.setCell ⟨gr, i, none⟩ (.int .i64 (v : Int))) gq gr gd cd qs (rs.set i v) ds :=
  ⟨h.q.far (p := ⟨gr, i, none⟩) h.qr _, h.r.set_ _ _, h.d.far (Below.heap_setCell wr ⟨gr, i, none⟩ _ gd (Ne.symm h.rd)), Below.setCell h.ext (p := ⟨gr, i, none⟩) h.br _, h.qr, h.qd, h.rd, h.bq, h.br⟩
theorem DS.drewN {w wr : World} {gq gr gd cd : Nat} {qs rs ds : List Nat} (h : DS w wr gq gr gd cd qs rs ds) (n : Nat) : DS w (wr.drewN n) gq gr gd cd qs rs ds :=
  ⟨h.q, h.r, h.d, h.ext.trans (Qt.ext ⟨n, rfl⟩), h.qr, h.qd, h.rd, h.bq, h.br⟩
theorem DS.dcell {w wr : World} {gq gr gd cd : Nat} {qs rs ds : List Nat} (h : DS w wr gq gr gd cd qs rs ds) {i : Nat} (hi : i < ds.length) : wr.cell? ⟨gd, i, none⟩ = some (.int .i64 (ds[i] : Nat)) := by
  obtain ⟨g, hA, _, _, hc, _⟩ := h.d.at_ hi
  injection hA with hA
  injection hA with e
  subst e
  exact hc

theorem Row.cell' {w : World} {g : Nat} {k : IntKind} {T : TypeId} {ds : List Nat} (h : Row w g k T ds) {i x : Nat} (hi : ds[i]? = some x) : w.cell? ⟨g, i, none⟩ = some (.int k (x : Int)) := by
  obtain ⟨hlt, hx⟩ := List.getElem?_eq_some_iff.1 hi
  rw [h.cell hlt, hx]
theorem DS.dcell' {w wr : World} {gq gr gd cd : Nat} {qs rs ds : List Nat} (h : DS w wr gq gr gd cd qs rs ds) {i x : Nat} (hi : ds[i]? = some x) : wr.cell? ⟨gd, i, none⟩ = some (.int .i64 (x : Int)) := by
  obtain ⟨hlt, hx⟩ := List.getElem?_eq_some_iff.1 hi
  rw [h.dcell hlt, hx]

/-- The heads of the rounds of 'DivMod', as numbers. -/
def DOut (a b n k : Nat) (qs rs : List Nat) : Prop :=
  rs.length = n ∧ Valid 2 qs ∧ Valid B15 rs ∧ val B15 rs < b ∧ a / 2 ^ k = val 2 (qs.drop k) * b + val B15 rs ∧ k ≤ qs.length ∧ qs.take k = List.replicate k 0
def DDbl (rs : List Nat) (n bit j c : Nat) (zs : List Nat) : Prop :=
  zs.length = n ∧ Valid B15 zs ∧ c ≤ 1 ∧ zs.drop j = rs.drop j ∧ val B15 (zs.take j) + B15 ^ j * c = 2 * val B15 (rs.take j) + bit
def DSub (zs ds : List Nat) (n j c : Nat) (ys : List Nat) : Prop :=
  ys.length = n ∧ Valid B15 ys ∧ c ≤ 1 ∧ ys.drop j = zs.drop j ∧ val B15 (ys.take j) + val B15 (ds.take j) = val B15 (zs.take j) + B15 ^ j * c

theorem drop_get {xs ys : List Nat} {j : Nat} (h : xs.drop j = ys.drop j) (h1 : j < xs.length) (h2 : j < ys.length) : xs[j] = ys[j] := by
  have h3 := congrArg (fun l => l[0]?) h
  simp only [List.getElem?_drop, Nat.add_zero] at h3
  rw [List.getElem?_eq_getElem h1, List.getElem?_eq_getElem h2] at h3
  injection h3
theorem drop_set_succ {xs ys : List Nat} {j v : Nat} (h : xs.drop j = ys.drop j) : (xs.set j v).drop (j + 1) = ys.drop (j + 1) := by
  rw [List.drop_set_of_lt (by omega)]
  have h1 := congrArg (List.drop 1) h
  rwa [List.drop_drop, List.drop_drop] at h1

theorem dbl_step {P X Z x c bit : Nat} (h : Z + P * c = 2 * X + bit) : Z + P * ((2 * x + c) % 32768) + P * 32768 * ((2 * x + c) / 32768) = 2 * (X + P * x) + bit := by
  have h1 : P * ((2 * x + c) % 32768) + P * 32768 * ((2 * x + c) / 32768) = P * (2 * x + c) := by
    rw [Nat.mul_assoc, ← Nat.mul_add, Nat.mod_add_div]
  rw [Nat.add_assoc, h1, Nat.mul_add, Nat.mul_left_comm P 2 x]
  omega
theorem DDbl.step {rs zs : List Nat} {n bit j c : Nat} (h : DDbl rs n bit j c zs) (hj : j < n) (hr : rs.length = n) :
    ∃ x, zs[j]? = some x ∧ x < 32768 ∧ c ≤ 1 ∧ DDbl rs n bit (j + 1) ((2 * x + c) / 32768) (zs.set j ((2 * x + c) % 32768)) := by
  obtain ⟨hl, hv, hc, hd, he⟩ := h
  have hx := valid_get hv j (by omega)
  have hg := drop_get hd (by omega) (by omega)
  refine ⟨zs[j], by rw [List.getElem?_eq_getElem (by omega)], hx, hc, by simpa using hl, valid_set hv _ _ (by unfold B15; omega), ?_, drop_set_succ hd, ?_⟩
  · have : zs[j] < 32768 := hx
    omega
  · rw [val_set B15 (by omega), val_take_succ B15 rs j (by omega), ← hg, Nat.pow_succ]
    exact dbl_step he
theorem DDbl.close {rs zs : List Nat} {n bit c : Nat} (h : DDbl rs n bit n c zs) (hr : rs.length = n) (hlt : 2 * val B15 rs + bit < B15 ^ n) :
    zs.length = n ∧ Valid B15 zs ∧ val B15 zs = 2 * val B15 rs + bit := by
  obtain ⟨hl, hv, _, _, he⟩ := h
  rw [List.take_of_length_le (by omega), List.take_of_length_le (by omega)] at he
  refine ⟨hl, hv, ?_⟩
  have : c = 0 := by
    rcases Nat.eq_zero_or_pos c with h0 | h0
    · exact h0
    · have : B15 ^ n * 1 ≤ B15 ^ n * c := Nat.mul_le_mul_left _ h0
      omega
  subst this
  omega
theorem sub_step {P X Y Z x y c d b : Nat} (h : Z + Y = X + P * c) (hd : d + y + c = x + 32768 * b) : Z + P * d + (Y + P * y) = X + P * x + P * 32768 * b := borrow_step h hd
theorem DSub.step {zs ds ys : List Nat} {n j c : Nat} (h : DSub zs ds n j c ys) (hj : j < n) (hz : zs.length = n) (hd0 : ds.length = n) (hv0 : Valid B15 ds) :
    ∃ x y, ys[j]? = some x ∧ ds[j]? = some y ∧ x < 32768 ∧ y < 32768 ∧ c ≤ 1 ∧
      (y + c ≤ x → DSub zs ds n (j + 1) 0 (ys.set j (x - y - c))) ∧ (x < y + c → DSub zs ds n (j + 1) 1 (ys.set j (x + 32768 - y - c))) := by
  obtain ⟨hl, hv, hc, hd, he⟩ := h
  have hx : ys[j] < 32768 := valid_get hv j (by omega)
  have hy : ds[j] < 32768 := valid_get hv0 j (by omega)
  have hg := drop_get hd (by omega) (by omega)
  refine ⟨ys[j], ds[j], by rw [List.getElem?_eq_getElem (by omega)], by rw [List.getElem?_eq_getElem (by omega)], hx, hy, hc, ?_, ?_⟩
  · intro hle
    refine ⟨by simpa using hl, valid_set hv _ _ (by unfold B15; omega), by omega, drop_set_succ hd, ?_⟩
    rw [val_set B15 (by omega), val_take_succ B15 zs j (by omega), val_take_succ B15 ds j (by omega), ← hg, Nat.pow_succ]
    exact sub_step he (by omega)
  · intro hlt
    refine ⟨by simpa using hl, valid_set hv _ _ (by unfold B15; omega), by omega, drop_set_succ hd, ?_⟩
    rw [val_set B15 (by omega), val_take_succ B15 zs j (by omega), val_take_succ B15 ds j (by omega), ← hg, Nat.pow_succ]
    exact sub_step he (by omega)
theorem DSub.close {zs ds ys : List Nat} {n c : Nat} (h : DSub zs ds n n c ys) (hz : zs.length = n) (hd0 : ds.length = n) (hge : val B15 ds ≤ val B15 zs) :
    ys.length = n ∧ Valid B15 ys ∧ val B15 ys + val B15 ds = val B15 zs := by
  obtain ⟨hl, hv, _, _, he⟩ := h
  rw [List.take_of_length_le (by omega), List.take_of_length_le (by omega), List.take_of_length_le (by omega)] at he
  refine ⟨hl, hv, ?_⟩
  have h1 := val_lt hv
  rw [hl] at h1
  have : c = 0 := by
    rcases Nat.eq_zero_or_pos c with h0 | h0
    · exact h0
    · have : B15 ^ n * 1 ≤ B15 ^ n * c := Nat.mul_le_mul_left _ h0
      omega
  subst this
  omega

theorem DOut.skip {a b n k : Nat} {qs rs zs : List Nat} (h : DOut a b n (k + 1) qs rs) (hl : zs.length = n) (hv : Valid B15 zs) (he : val B15 zs = 2 * val B15 rs + bitN a k) (hlt : val B15 zs < b) :
    DOut a b n k qs zs := by
  obtain ⟨h1, h2, h3, h4, h5, h6, h7⟩ := h
  have hz : qs[k]'(by omega) = 0 := by
    have := congrArg (fun l => l[k]?) h7
    simp only [List.getElem?_take, if_pos (Nat.lt_succ_self k), List.getElem?_replicate] at this
    rw [List.getElem?_eq_getElem (by omega)] at this
    simpa using this
  refine ⟨hl, h2, hv, hlt, ?_, by omega, ?_⟩
  · rw [div_pow_succ, h5, val_drop 2 qs k (by omega), hz, he, Nat.zero_add, Nat.mul_add, Nat.mul_assoc]
    omega
  · have := congrArg (List.take k) h7
    rw [List.take_take, List.take_replicate, Nat.min_eq_left (by omega)] at this
    exact this
theorem DOut.hit {a b n k : Nat} {qs rs zs ys : List Nat} (h : DOut a b n (k + 1) qs rs) (hl : ys.length = n) (hv : Valid B15 ys) (he : val B15 zs = 2 * val B15 rs + bitN a k) (hs : val B15 ys + b = val B15 zs) :
    DOut a b n k (qs.set k 1) ys := by
  obtain ⟨h1, h2, h3, h4, h5, h6, h7⟩ := h
  have hb := bitN_lt a k
  refine ⟨hl, valid_set h2 _ _ (by omega), hv, by omega, ?_, by simp; omega, ?_⟩
  · rw [div_pow_succ, h5, val_drop 2 (qs.set k 1) k (by simp; omega), List.drop_set_of_lt (by omega)]
    simp only [List.getElem_set_self]
    rw [Nat.mul_add, Nat.add_mul, Nat.mul_assoc]
    omega
  · rw [List.take_set_of_le (Nat.le_refl _)]
    have := congrArg (List.take k) h7
    rw [List.take_take, List.take_replicate, Nat.min_eq_left (by omega)] at this
    exact this

/-- The call returns two numbers as bits, and changes nothing. -/
def RetBB (w : World) (x y : Nat) (e : Ending) (w' : World) : Prop :=
  ∃ A c A' c', e = .returned (.tuple #[.slice A (digs 2 x).length c, .slice A' (digs 2 y).length c']) ∧ BN w' A c x ∧ BN w' A' c' y ∧ Ext w w'

theorem dm_end {a b n : Nat} {qs rs : List Nat} (h : DOut a b n 0 qs rs) : val 2 qs = a / b ∧ val B15 rs = a % b := by
  obtain ⟨_, _, _, h4, h5, _, _⟩ := h
  rw [Nat.pow_zero, Nat.div_one, List.drop_zero, Nat.mul_comm] at h5
  constructor
  · rw [h5, Nat.mul_add_div (by omega), Nat.div_eq_of_lt h4, Nat.add_zero]
  · rw [h5, Nat.mul_add_mod, Nat.mod_eq_of_lt h4]

end Go.Proofs.Ytjhknnioefipmaa
