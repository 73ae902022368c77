/- Contracts of package cylinderref01, fourth part: DivMod. -/
import Derived.Maps.AppendAt
import Derived.Test.YtfnmbhjifdfibaaRefC
namespace Go.Proofs.Ytfnmbhjifdfibaa
open Go.RowKit

theorem Own.far {w w' : World} {B g c : Nat} {k : IntKind} {T : TypeId} {ds : List Nat} (h : Own w B k T (some ⟨g, 0, none⟩) c ds) (hh : w'.heap[g]? = w.heap[g]?) : Own w' B k T (some ⟨g, 0, none⟩) c ds := by
  refine ⟨h.1, ?_⟩
  rcases h.2 with ⟨hv, _⟩ | ⟨g', cap, cur, hv, hg, hr, r⟩
  · injection hv with h1; cases h1
  · have hv' := hv
    injection hv' with h1
    injection h1 with h1
    injection h1 with h1
    subst h1
    exact .inr ⟨g, cap, cur, hv, hg, hh.trans hr, r⟩

section
variable {P : Program} {w : World} {ops : Array Oper} {rest : List Oper} {o : Oper} {a : Act} {Q : Exit → Act → World → Prop}
/-- 'append(s, v)': one element; where the row lies behind it. -/
theorem wpList_app1_at (hgd : o.guard = none) (s x : Operand) (t : TypeId) (ho : o.op = .call { callee := .builtin .append, args := #[s, x], argTypes := #[t, t] })
    (B : Nat) (e : TypeId) (k : IntKind) (by_ : Nat) (ht : P.underlying t = some (.slice e)) (hi : (P.info? e).map (fun i => (i.zero, i.size, i.bytes)) = some (some (.int k 0), 1, by_)) (hb8 : by_ ≤ 8)
    (g0 c n : Nat) (ds : List Nat) (hn : ds.length = n) (hs : a.eval s = .slice (some ⟨g0, 0, none⟩) n c) (hown : Own w B k e (some ⟨g0, 0, none⟩) c ds)
    (g : Nat) (v : Nat) (hx : a.eval x = .slice (some ⟨g, 0, none⟩) 1 1) (hc : w.cell? ⟨g, 0, none⟩ = some (.int k (v : Int)))
    (hlen : n ≤ 17592186044000) (hB : B ≤ w.heap.size)
    (h : ∀ g' c' w', Own w' B k e (some ⟨g', 0, none⟩) c' (ds ++ [v]) → (g' = g0 ∨ g' = w.heap.size) → (∀ j, j < w.heap.size → j ≠ g0 → w'.heap[j]? = w.heap[j]?) → Below B w w' →
      wpList P ops Q rest (a.put o.dst (.slice (some ⟨g', 0, none⟩) (n + 1) c')) w') : wpList P ops Q (o :: rest) a w := by
  subst hn
  obtain ⟨i, hi1, hz, hsz, hby⟩ := info_parts hi
  refine wpList_append_own_at (w := w) hgd s x t ho B e i (.int k 0) 1 by_ ht hi1 hz hsz hby rfl (by omega) _ ds.length (nums k ds) hs hown ⟨g, 0, none⟩ 1 1 (nums k [v]) hx (by simp [nums]) ?_ (nums_one k _) (by unfold maxLen; omega) ?_ hB ?_
  · intro j u hj
    match j, hj with
    | 0, hj => simp [nums] at hj; subst hj; simpa [Addr.add] using hc
    | j + 1, hj => simp [nums] at hj
  · have : (ds.length + 1) * by_ ≤ (ds.length + 1) * 8 := Nat.mul_le_mul_left _ hb8
    omega
  · intro v' w' how hgr hnil hat
    rw [← nums_append] at how
    have hl : ds.length + 1 = (ds ++ [v]).length := by simp
    rcases how.2 with ⟨hv, hn⟩ | ⟨g', cap, cur, hv, hg', hh, r⟩
    · omega
    · subst hv
      have hb : Below B w w' := (Below.refl B w).grown hgr hB (fun k hk => hown.block_ge k hk)
      have ho : Own w' B k e (some ⟨g', 0, none⟩) cap (ds ++ [v]) := by
        unfold Own
        rw [← hl]
        exact how
      refine h _ _ w' ho ?_ ?_ hb
      · rcases hat with h1 | h1
        · left; injection h1
        · right; injection h1
      · intro j hj hne
        refine hgr.block j hj (fun e => hne ?_)
        injection e
end

/-- The memory of 'DivMod': quotient bits, remainder, divisor. -/
structure DS (w wr : World) (gq gr gd cd : Nat) (qs rs ds : List Nat) : Prop where
  q : Row wr gq .i64 3 qs
  r : Row wr gr .i64 3 rs
  d : Own wr 0 .i64 3 (some ⟨gd, 0, none⟩) cd ds
  ext : Ext w wr
  qr : gq ≠ gr
  qd : gq ≠ gd
  rd : gr ≠ gd
  bq : w.heap.size ≤ gq
  br : w.heap.size ≤ gr
theorem DS.setQ {w wr : World} {gq gr gd cd : Nat} {qs rs ds : List Nat} (h : DS w wr gq gr gd cd qs rs ds) (i v : Nat) :
    DS w (wr.setCell ⟨gq, i, none⟩ (.int .i64 (v : Int))) gq gr gd cd (qs.set i v) rs ds :=
  ⟨h.q.set_ _ _, h.r.far (p := ⟨gq, i, none⟩) (Ne.symm h.qr) _, h.d.far (Below.heap_setCell wr ⟨gq, i, none⟩ _ gd (Ne.symm h.qd)), Below.setCell h.ext (p := ⟨gq, i, none⟩) h.bq _, h.qr, h.qd, h.rd, h.bq, h.br⟩
theorem DS.setR {w wr : World} {gq gr gd cd : Nat} {qs rs ds : List Nat} (h : DS w wr gq gr gd cd qs rs ds) (i v : Nat) :
    DS w (wr.setCell ⟨gr, i, none⟩ (.int .i64 (v : Int))) gq gr gd cd qs (rs.set i v) ds :=
  ⟨h.q.far (p := ⟨gr, i, none⟩) h.qr _, h.r.set_ _ _, h.d.far (Below.heap_setCell wr ⟨gr, i, none⟩ _ gd (Ne.symm h.rd)), Below.setCell h.ext (p := ⟨gr, i, none⟩) h.br _, h.qr, h.qd, h.rd, h.bq, h.br⟩
theorem DS.drewN {w wr : World} {gq gr gd cd : Nat} {qs rs ds : List Nat} (h : DS w wr gq gr gd cd qs rs ds) (n : Nat) : DS w (wr.drewN n) gq gr gd cd qs rs ds :=
  ⟨h.q, h.r, h.d, h.ext.trans (Qt.ext ⟨n, rfl⟩), h.qr, h.qd, h.rd, h.bq, h.br⟩
theorem DS.dcell {w wr : World} {gq gr gd cd : Nat} {qs rs ds : List Nat} (h : DS w wr gq gr gd cd qs rs ds) {i : Nat} (hi : i < ds.length) : wr.cell? ⟨gd, i, none⟩ = some (.int .i64 (ds[i] : Nat)) := by
  obtain ⟨g, hA, _, _, hc, _⟩ := h.d.at_ hi
  injection hA with hA
  injection hA with e
  subst e
  exact hc

theorem Row.cell' {w : World} {g : Nat} {k : IntKind} {T : TypeId} {ds : List Nat} (h : Row w g k T ds) {i x : Nat} (hi : ds[i]? = some x) : w.cell? ⟨g, i, none⟩ = some (.int k (x : Int)) := by
  obtain ⟨hlt, hx⟩ := List.getElem?_eq_some_iff.1 hi
  rw [h.cell hlt, hx]
theorem DS.dcell' {w wr : World} {gq gr gd cd : Nat} {qs rs ds : List Nat} (h : DS w wr gq gr gd cd qs rs ds) {i x : Nat} (hi : ds[i]? = some x) : wr.cell? ⟨gd, i, none⟩ = some (.int .i64 (x : Int)) := by
  obtain ⟨hlt, hx⟩ := List.getElem?_eq_some_iff.1 hi
  rw [h.dcell hlt, hx]

/-- The heads of the rounds of 'DivMod', as numbers. -/
def DOut (a b n k : Nat) (qs rs : List Nat) : Prop :=
  rs.length = n ∧ Valid 2 qs ∧ Valid B15 rs ∧ val B15 rs < b ∧ a / 2 ^ k = val 2 (qs.drop k) * b + val B15 rs ∧ k ≤ qs.length ∧ qs.take k = List.replicate k 0
def DDbl (rs : List Nat) (n bit j c : Nat) (zs : List Nat) : Prop :=
  zs.length = n ∧ Valid B15 zs ∧ c ≤ 1 ∧ zs.drop j = rs.drop j ∧ val B15 (zs.take j) + B15 ^ j * c = 2 * val B15 (rs.take j) + bit
def DSub (zs ds : List Nat) (n j c : Nat) (ys : List Nat) : Prop :=
  ys.length = n ∧ Valid B15 ys ∧ c ≤ 1 ∧ ys.drop j = zs.drop j ∧ val B15 (ys.take j) + val B15 (ds.take j) = val B15 (zs.take j) + B15 ^ j * c

theorem drop_get {xs ys : List Nat} {j : Nat} (h : xs.drop j = ys.drop j) (h1 : j < xs.length) (h2 : j < ys.length) : xs[j] = ys[j] := by
  have h3 := congrArg (fun l => l[0]?) h
  simp only [List.getElem?_drop, Nat.add_zero] at h3
  rw [List.getElem?_eq_getElem h1, List.getElem?_eq_getElem h2] at h3
  injection h3
theorem drop_set_succ {xs ys : List Nat} {j v : Nat} (h : xs.drop j = ys.drop j) : (xs.set j v).drop (j + 1) = ys.drop (j + 1) := by
  rw [List.drop_set_of_lt (by omega)]
  have h1 := congrArg (List.drop 1) h
  rwa [List.drop_drop, List.drop_drop] at h1

theorem dbl_step {P X Z x c bit : Nat} (h : Z + P * c = 2 * X + bit) : Z + P * ((2 * x + c) % 32768) + P * 32768 * ((2 * x + c) / 32768) = 2 * (X + P * x) + bit := by
  have h1 : P * ((2 * x + c) % 32768) + P * 32768 * ((2 * x + c) / 32768) = P * (2 * x + c) := by
    rw [Nat.mul_assoc, ← Nat.mul_add, Nat.mod_add_div]
  rw [Nat.add_assoc, h1, Nat.mul_add, Nat.mul_left_comm P 2 x]
  omega
theorem DDbl.step {rs zs : List Nat} {n bit j c : Nat} (h : DDbl rs n bit j c zs) (hj : j < n) (hr : rs.length = n) :
    ∃ x, zs[j]? = some x ∧ x < 32768 ∧ c ≤ 1 ∧ DDbl rs n bit (j + 1) ((2 * x + c) / 32768) (zs.set j ((2 * x + c) % 32768)) := by
  obtain ⟨hl, hv, hc, hd, he⟩ := h
  have hx := valid_get hv j (by omega)
  have hg := drop_get hd (by omega) (by omega)
  refine ⟨zs[j], by rw [List.getElem?_eq_getElem (by omega)], hx, hc, by simpa using hl, valid_set hv _ _ (by unfold B15; omega), ?_, drop_set_succ hd, ?_⟩
  · have : zs[j] < 32768 := hx
    omega
  · rw [val_set B15 (by omega), val_take_succ B15 rs j (by omega), ← hg, Nat.pow_succ]
    exact dbl_step he
theorem DDbl.close {rs zs : List Nat} {n bit c : Nat} (h : DDbl rs n bit n c zs) (hr : rs.length = n) (hlt : 2 * val B15 rs + bit < B15 ^ n) :
    zs.length = n ∧ Valid B15 zs ∧ val B15 zs = 2 * val B15 rs + bit := by
  obtain ⟨hl, hv, _, _, he⟩ := h
  rw [List.take_of_length_le (by omega), List.take_of_length_le (by omega)] at he
  refine ⟨hl, hv, ?_⟩
  have : c = 0 := by
    rcases Nat.eq_zero_or_pos c with h0 | h0
    · exact h0
    · have : B15 ^ n * 1 ≤ B15 ^ n * c := Nat.mul_le_mul_left _ h0
      omega
  subst this
  omega
theorem sub_step {P X Y Z x y c d b : Nat} (h : Z + Y = X + P * c) (hd : d + y + c = x + 32768 * b) : Z + P * d + (Y + P * y) = X + P * x + P * 32768 * b := borrow_step h hd
theorem DSub.step {zs ds ys : List Nat} {n j c : Nat} (h : DSub zs ds n j c ys) (hj : j < n) (hz : zs.length = n) (hd0 : ds.length = n) (hv0 : Valid B15 ds) :
    ∃ x y, ys[j]? = some x ∧ ds[j]? = some y ∧ x < 32768 ∧ y < 32768 ∧ c ≤ 1 ∧
      (y + c ≤ x → DSub zs ds n (j + 1) 0 (ys.set j (x - y - c))) ∧ (x < y + c → DSub zs ds n (j + 1) 1 (ys.set j (x + 32768 - y - c))) := by
  obtain ⟨hl, hv, hc, hd, he⟩ := h
  have hx : ys[j] < 32768 := valid_get hv j (by omega)
  have hy : ds[j] < 32768 := valid_get hv0 j (by omega)
  have hg := drop_get hd (by omega) (by omega)
  refine ⟨ys[j], ds[j], by rw [List.getElem?_eq_getElem (by omega)], by rw [List.getElem?_eq_getElem (by omega)], hx, hy, hc, ?_, ?_⟩
  · intro hle
    refine ⟨by simpa using hl, valid_set hv _ _ (by unfold B15; omega), by omega, drop_set_succ hd, ?_⟩
    rw [val_set B15 (by omega), val_take_succ B15 zs j (by omega), val_take_succ B15 ds j (by omega), ← hg, Nat.pow_succ]
    exact sub_step he (by omega)
  · intro hlt
    refine ⟨by simpa using hl, valid_set hv _ _ (by unfold B15; omega), by omega, drop_set_succ hd, ?_⟩
    rw [val_set B15 (by omega), val_take_succ B15 zs j (by omega), val_take_succ B15 ds j (by omega), ← hg, Nat.pow_succ]
    exact sub_step he (by omega)
theorem DSub.close {zs ds ys : List Nat} {n c : Nat} (h : DSub zs ds n n c ys) (hz : zs.length = n) (hd0 : ds.length = n) (hge : val B15 ds ≤ val B15 zs) :
    ys.length = n ∧ Valid B15 ys ∧ val B15 ys + val B15 ds = val B15 zs := by
  obtain ⟨hl, hv, _, _, he⟩ := h
  rw [List.take_of_length_le (by omega), List.take_of_length_le (by omega), List.take_of_length_le (by omega)] at he
  refine ⟨hl, hv, ?_⟩
  have h1 := val_lt hv
  rw [hl] at h1
  have : c = 0 := by
    rcases Nat.eq_zero_or_pos c with h0 | h0
    · exact h0
    · have : B15 ^ n * 1 ≤ B15 ^ n * c := Nat.mul_le_mul_left _ h0
      omega
  subst this
  omega

theorem DOut.skip {a b n k : Nat} {qs rs zs : List Nat} (h : DOut a b n (k + 1) qs rs) (hl : zs.length = n) (hv : Valid B15 zs) (he : val B15 zs = 2 * val B15 rs + bitN a k) (hlt : val B15 zs < b) :
    DOut a b n k qs zs := by
  obtain ⟨h1, h2, h3, h4, h5, h6, h7⟩ := h
  have hz : qs[k]'(by omega) = 0 := by
    have := congrArg (fun l => l[k]?) h7
    simp only [List.getElem?_take, if_pos (Nat.lt_succ_self k), List.getElem?_replicate] at this
    rw [List.getElem?_eq_getElem (by omega)] at this
    simpa using this
  refine ⟨hl, h2, hv, hlt, ?_, by omega, ?_⟩
  · rw [div_pow_succ, h5, val_drop 2 qs k (by omega), hz, he, Nat.zero_add, Nat.mul_add, Nat.mul_assoc]
    omega
  · have := congrArg (List.take k) h7
    rw [List.take_take, List.take_replicate, Nat.min_eq_left (by omega)] at this
    exact this
theorem DOut.hit {a b n k : Nat} {qs rs zs ys : List Nat} (h : DOut a b n (k + 1) qs rs) (hl : ys.length = n) (hv : Valid B15 ys) (he : val B15 zs = 2 * val B15 rs + bitN a k) (hs : val B15 ys + b = val B15 zs) :
    DOut a b n k (qs.set k 1) ys := by
  obtain ⟨h1, h2, h3, h4, h5, h6, h7⟩ := h
  have hb := bitN_lt a k
  refine ⟨hl, valid_set h2 _ _ (by omega), hv, by omega, ?_, by simp; omega, ?_⟩
  · rw [div_pow_succ, h5, val_drop 2 (qs.set k 1) k (by simp; omega), List.drop_set_of_lt (by omega)]
    simp only [List.getElem_set_self]
    rw [Nat.mul_add, Nat.add_mul, Nat.mul_assoc]
    omega
  · rw [List.take_set_of_le (Nat.le_refl _)]
    have := congrArg (List.take k) h7
    rw [List.take_take, List.take_replicate, Nat.min_eq_left (by omega)] at this
    exact this

/-- The call returns two numbers as bits, and changes nothing. -/
def RetBB (w : World) (x y : Nat) (e : Ending) (w' : World) : Prop :=
  ∃ A c A' c', e = .returned (.tuple #[.slice A (digs 2 x).length c, .slice A' (digs 2 y).length c']) ∧ BN w' A c x ∧ BN w' A' c' y ∧ Ext w w'

theorem dm_end {a b n : Nat} {qs rs : List Nat} (h : DOut a b n 0 qs rs) : val 2 qs = a / b ∧ val B15 rs = a % b := by
  obtain ⟨_, _, _, h4, h5, _, _⟩ := h
  rw [Nat.pow_zero, Nat.div_one, List.drop_zero, Nat.mul_comm] at h5
  constructor
  · rw [h5, Nat.mul_add_div (by omega), Nat.div_eq_of_lt h4, Nat.add_zero]
  · rw [h5, Nat.mul_add_mod, Nat.mod_eq_of_lt h4]

set_option maxRecDepth 100000 in
set_option maxHeartbeats 2000000 in
theorem rdivMod_any {w : World} {A1 A2 : Option Addr} {c1 c2 a b : Nat} (h1 : BN w A1 c1 a) (h2 : BN w A2 c2 b) (hb0 : 0 < b) (hs1 : bl a ≤ 2199023255552) (hs2 : bl b ≤ 2199023255552) :
    Calls Try.prog 138 #[.slice A1 (digs 2 a).length c1, .slice A2 (digs 2 b).length c2] w (RetBB w (a / b) (a % b)) := by
  have HA := Lib.hid h1.rd
  have HG : Hid (∀ i (hi : i < (digs 2 a).length), (digs 2 a)[i] = bitN a i) := fun i hi => digs_get hi
  have HN : Hid (a / 2 ^ (digs 2 a).length = 0) := Nat.div_eq_of_lt (lt_pow_len (by omega) a)
  have HW : Hid (∀ w', Ext w w' → Calls Try.prog 136 #[.slice A2 (digs 2 b).length c2] w' (RetW w' ((bl b + 14) / 15) b)) := fun w' hx => words_any (h2.ext hx) (by omega)
  have hb1 : 0 < bl b := by
    rcases Nat.eq_zero_or_pos (bl b) with h | h
    · have := lt_pow_len (B := 2) (by omega) b
      unfold bl at h
      rw [h] at this
      simp at this; omega
    · exact h
  clear h1 h2
  unfold bl at hs1
  generalize digs 2 a = ba at *
  have hL : (bl b + 14) / 15 ≤ 146601550371 := by omega
  have hL0 : 0 < (bl b + 14) / 15 := by omega
  clear hs2 hb1
  generalize (bl b + 14) / 15 = L at *
  go_enter Try.func138, Try.ntmps138
  go_wp2_with (at_make; refine wpList_mkrow rfl _ _ _ rfl _ _ _ Try.underlying34 info_int (by omega) _ _ _ ba.length rfl rfl (by omega) (by omega) ?_)
  intro gq w1 hgq hq hx1
  go_wp2_with fail
  refine (HW.out w1 hx1).mono ?_
  rintro e w2 ⟨gw, ws, rfl, hgw, hw, hlw, hvw, hew, hx2⟩
  clear HW
  have hq2 := hq.ext hx2
  have hqlt := hq.lt
  subst hlw
  clear hq
  go_wp2_with (at_make; refine wpList_mkrow rfl _ _ _ rfl _ _ _ Try.underlying34 info_int (by omega) _ _ _ (ws.length + 1) rfl rfl (by omega) (by omega) ?_)
  intro gr w3 hgr hr hx3
  have hq3 := hq2.ext hx3
  have hw3 := hw.ext hx3
  have hwlt := hw.lt
  have hx03 := (hx1.trans hx2).trans hx3
  have hown : Own w3 0 .i64 3 (some ⟨gw, 0, none⟩) ws.length ws := Own.of_row' hw3 (Nat.zero_le _) (by unfold maxLen; omega) rfl List.take_length
  have HOWN := Lib.hid hown
  have HQ := Lib.hid hq3
  have HR := Lib.hid hr
  have HX := Lib.hid hx03
  have HV := Lib.hid hvw
  have HE := Lib.hid hew
  have hgr0 := hr.lt
  clear hown hq3 hr hx03 hvw hew hq2 hw hw3 hx1 hx2 hx3
  go_wp2_with (at_builtin; go_loud (refine wpList_app1_at rfl _ _ _ rfl 0 3 .i64 8 Try.underlying34 info_int (by omega) gw ws.length ws.length ws rfl rfl (HOWN.out.below (Ext.alloc _ _)) w3.heap.size 0 rfl ?h2 ?h3 ?h4 ?h5))
  case h2 => simp
  case h3 => omega
  case h4 => omega
  case h5 =>
    intro gd cd w5 hd hat hoth hb5
    have hle := hb5.size
    simp at hle hat
    have hds : DS w w5 gq gr gd cd (List.replicate ba.length 0) (List.replicate (ws.length + 1) 0) (ws ++ [0]) := by
      have e1 : w5.heap[gq]? = (w3.alloc (.cells #[.int .i64 0] 3)).heap[gq]? := hoth gq (by omega) (by omega)
      have e2 : w5.heap[gr]? = (w3.alloc (.cells #[.int .i64 0] 3)).heap[gr]? := hoth gr (by omega) (by omega)
      have hxa : Ext w (w3.alloc (.cells #[.int .i64 0] 3)) := HX.out.trans (Ext.alloc _ _)
      have hx5 : Below w.heap.size (w3.alloc (.cells #[.int .i64 0] 3)) w5 := ⟨hb5.os, hb5.tape, hb5.output, hb5.size, fun j hj => hoth j (by omega) (by omega)⟩
      exact ⟨e1.trans (HQ.out.alloc _), e2.trans (HR.out.alloc _), hd, Below.trans hxa hx5, by omega, by omega, by omega, hgq, by omega⟩
    have HDL : Hid ((ws ++ [0]).length = ws.length + 1) := by show _ = _; simp
    have HDV : Hid (Valid B15 (ws ++ [0])) := valid_append.2 ⟨HV.out, by unfold Valid B15; simp⟩
    have HDE : Hid (val B15 (ws ++ [0]) = b) := by show _ = _; rw [val_snoc, HE.out]; omega
    have HFIT : Hid (2 * b ≤ B15 ^ (ws.length + 1)) := by
      have h1 := val_lt HV.out
      rw [HE.out] at h1
      have h2 : B15 ^ ws.length * 2 ≤ B15 ^ ws.length * B15 := Nat.mul_le_mul_left _ (by unfold B15; omega)
      show _ ≤ _
      rw [Nat.pow_succ]; omega
    have hdo : DOut a b (ws.length + 1) ba.length (List.replicate ba.length 0) (List.replicate (ws.length + 1) 0) := by
      refine ⟨by simp, valid_replicate (by omega) _, valid_replicate (by unfold B15; omega) _, by rw [val_replicate]; exact hb0, ?_, by simp, by simp⟩
      rw [HN.out, val_replicate]; simp [val]
    have HDS := Lib.hid hds
    have HDO := Lib.hid hdo
    clear hds hdo hd hat hoth hb5 hle HX HR HQ HV HE HOWN hgr0 hqlt hwlt hgw hgr HN
    generalize ws ++ [0] = ds at *
    generalize ws.length = m at *
    go_wp2_with fail
    go_loopw [10] (fun i wr => ∃ (k : Nat) (qs rs : List Nat), i = .int .i64 ((k : Int) - 1) ∧ k ≤ ba.length ∧ qs.length = ba.length ∧ DS w wr gq gr gd cd qs rs ds ∧ DOut a b (m + 1) k qs rs) (fun i _ => (intOf i + 1).toNat)
    case atStart => exact ⟨ba.length, _, _, rfl, Nat.le_refl _, by simp, HDS.out, HDO.out⟩
    case round =>
      clear HDS HDO
      obtain ⟨k, qs, rs, rfl, hk, hql, hds, hdo⟩ := hrel
      by_cases hk0 : k = 0
      · subst hk0
        obtain ⟨hv1, hv2⟩ := dm_end hdo
        obtain ⟨hl, hvq, hvr, _⟩ := hdo
        have hmq : qs.length ≤ maxLen := by rw [hql]; unfold maxLen; omega
        obtain ⟨ht, hbn⟩ := trim_own (Own.of_row' (ds := qs) hds.q hds.bq hmq rfl List.take_length) hvq hv1
        have hrd := hds.r.rd rs.length
        rw [List.take_length] at hrd
        have htb := rbits_any (c := rs.length) hrd hvr hv2 (by omega)
        have hx := hds.ext
        rw [hl] at htb
        rw [hql] at ht hbn
        have HT := Lib.hid ht
        have HB := Lib.hid hbn
        have HTB := Lib.hid htb
        clear hds hl hvq hvr hmq ht hbn hrd htb hv1 hv2
        go_wp2_with fail
        refine HT.out.mono ?_
        rintro e w' ⟨rfl, rfl⟩
        go_wp2_with fail
        refine HTB.out.mono ?_
        rintro e w' ⟨A, c, rfl, hb, hx4⟩
        go_wp2_with fail
        go_ret2
        exact ⟨_, _, _, _, rfl, HB.out.ext hx4, hb, hx.trans hx4⟩
      · obtain ⟨k, rfl⟩ : ∃ k', k = k' + 1 := ⟨k - 1, by omega⟩
        clear hk0
        have hki : (((k + 1 : Nat) : Int) - 1) = (k : Int) := by omega
        rw [hki]
        have HKI := Lib.hid hki
        clear hki
        obtain ⟨b1, o1, rfl, hb1, hc1⟩ := (HA.out.below hds.ext).at_ (j := k) (by omega)
        rw [HG.out k (by omega)] at hc1
        have hbt := bitN_lt a k
        have hfit : 2 * val B15 rs + bitN a k < B15 ^ (m + 1) := by have := hdo.2.2.2.1; have := HFIT.out; omega
        have HF := Lib.hid hfit
        have HO := Lib.hid hdo
        have HD := Lib.hid hds
        have hin : Hid (DDbl rs (m + 1) (bitN a k) 0 (bitN a k) rs) := ⟨hdo.1, hdo.2.2.1, by omega, rfl, by simp [val]⟩
        have HRL := Lib.hid hdo.1
        clear hds hdo hfit
        generalize hbe : bitN a k = bt at hc1 hbt HF hin
        have HBE := Lib.hid hbe
        clear hbe
        go_wp2_with fail
        obtain ⟨wo, rfl⟩ : ∃ wo : World, wo = wr := ⟨_, rfl⟩
        go_loopw [11, 12] (fun cv jv wr => ∃ (j cc : Nat) (zs : List Nat), j ≤ m + 1 ∧ jv = .int .i64 j ∧ cv = .int .i64 cc ∧ DS w wr gq gr gd cd qs zs ds ∧ DDbl rs (m + 1) bt j cc zs) (fun _ jv _ => m + 1 - (intOf jv).toNat)
        case atStart => exact ⟨0, bt, rs, Nat.zero_le _, rfl, rfl, HD.out, hin.out⟩
        case round =>
          clear hin HD hc1 hb1
          obtain ⟨j, cc, zs, hj, rfl, rfl, hds, hdb⟩ := hrel
          by_cases hjl : j < m + 1
          · obtain ⟨x, hgx, hx, hcc, hstep⟩ := hdb.step hjl HRL.out
            have hcell := hds.r.cell' hgx
            have hfr := hds.r.frozen j
            have hgl := hds.r.lt
            have HS : Hid (∀ e : Int, e = (((2 * x + cc) % 32768 : Nat) : Int) → ∃ zs', DS w (wr.setCell ⟨gr, j, none⟩ (.int .i64 e)) gq gr gd cd qs zs' ds ∧ DDbl rs (m + 1) bt (j + 1) ((2 * x + cc) / 32768) zs') :=
              fun e he => by subst he; exact ⟨_, hds.setR _ _, hstep⟩
            clear hds hdb hstep hgx
            go_wp2_with fail
            go_roundw
            case rel =>
              obtain ⟨zs', h1, h2⟩ := HS.out _ (by go_num)
              exact ⟨j + 1, (2 * x + cc) / 32768, zs', by omega, by go_num, by go_num, h1, h2⟩
            case measure => simp [intOf]; omega
          · have hje : j = m + 1 := by omega
            have hdb' : DDbl rs (m + 1) bt (m + 1) cc zs := by rw [hje] at hdb; exact hdb
            obtain ⟨hzl, hzv, hze⟩ := hdb'.close HRL.out HF.out
            rw [← HBE.out] at hze
            have HZL := Lib.hid hzl
            have HZV := Lib.hid hzv
            have HZE := Lib.hid hze
            have HD2 : Hid (∀ n, DS w (wr.drewN n) gq gr gd cd qs zs ds) := fun n => hds.drewN n
            have HRC : Hid (∀ i x : Nat, zs[i]? = some x → wr.cell? ⟨gr, i, none⟩ = some (.int .i64 (x : Int))) := fun i x h => hds.r.cell' h
            have HDC : Hid (∀ i x : Nat, ds[i]? = some x → wr.cell? ⟨gd, i, none⟩ = some (.int .i64 (x : Int))) := fun i x h => hds.dcell' h
            have HQ1 : Hid (∀ n, DS w ((wr.drewN n).setCell ⟨gq, k, none⟩ (.int .i64 1)) gq gr gd cd (qs.set k 1) zs ds) := fun n => (hds.drewN n).setQ k 1
            obtain ⟨q0, hqc⟩ := hds.q.some_ (i := k) (by omega)
            have hqf := hds.q.frozen k
            have hqlt := hds.q.lt
            clear hds hdb hdb' hje hzl hzv hze HF HRL HFIT
            go_wp2_with fail
            clear hj hjl
            obtain ⟨wi, rfl⟩ : ∃ wi : World, wi = wr := ⟨_, rfl⟩
            go_loopw [14] (fun kv wr => ∃ (j nq : Nat), kv = .int .i64 j ∧ j ≤ m ∧ zs.drop (j + 1) = ds.drop (j + 1) ∧ wr = wi.drewN nq) (fun kv _ => (intOf kv).toNat)
            case atStart => exact ⟨m, 0, by go_num, Nat.le_refl _, by rw [List.drop_of_length_le (by rw [HZL.out]; omega), List.drop_of_length_le (by rw [HDL.out]; omega)], rfl⟩
            case round =>
              obtain ⟨j, nq, rfl, hjm, hdr, rfl⟩ := hrel
              have hjz : j < zs.length := by rw [HZL.out]; omega
              have hjd : j < ds.length := by rw [HDL.out]; omega
              obtain ⟨x, hxe⟩ : ∃ x, x = zs[j] := ⟨_, rfl⟩
              obtain ⟨y, hye⟩ : ∃ y, y = ds[j] := ⟨_, rfl⟩
              have HLT : Hid (x < y → val B15 zs < val B15 ds) := fun h => val_lt_of_digit HZV.out j hjz hjd (by omega) hdr
              have HGT : Hid (y < x → val B15 ds < val B15 zs) := fun h => val_lt_of_digit HDV.out j hjd hjz (by omega) hdr.symm
              have HEQ : Hid (x = y → zs.drop j = ds.drop j) := fun h => by
                rw [List.drop_eq_getElem_cons hjz, List.drop_eq_getElem_cons hjd, ← hxe, ← hye, h, hdr]
              have hrc := HRC.out j x (by rw [List.getElem?_eq_getElem hjz, hxe])
              have hdc := HDC.out j y (by rw [List.getElem?_eq_getElem hjd, hye])
              have hrb : x < 32768 := by have : zs[j] < 32768 := valid_get HZV.out j hjz; omega
              have hdb : y < 32768 := by have : ds[j] < 32768 := valid_get HDV.out j hjd; omega
              clear hdr HRC HDC hxe hye hjz hjd
              by_cases hj0 : j = 0
              · subst hj0
                by_cases hlt3 : x < y
                · have HO2 : Hid (DOut a b (m + 1) k qs zs) := DOut.skip HO.out HZL.out HZV.out HZE.out (by rw [← HDE.out]; exact HLT.out hlt3)
                  clear HLT HGT HEQ
                  go_wp2_with fail
                  go_quiet (fail)
                  go_wp2_with fail
                  go_quiet (fail)
                  go_wp2_with fail
                  go_roundw
                  case rel => exact ⟨k, qs, zs, by go_num, by omega, hql, HD2.out _, HO2.out⟩
                  case measure => simp [intOf]
                · have HGE : Hid (val B15 ds ≤ val B15 zs) := by
                    show _ ≤ _
                    rcases Nat.lt_or_ge y x with h | h
                    · exact Nat.le_of_lt (HGT.out h)
                    · have := HEQ.out (by omega)
                      simp only [List.drop_zero] at this
                      rw [this]; exact Nat.le_refl _
                  have hq1 := hqc
                  clear HLT HGT HEQ
                  go_wp2_with fail
                  go_quiet (fail)
                  go_wp2_with fail
                  go_quiet (fail)
                  go_wp2_with fail
                  go_loopw [15, 16] (fun bv jv wr => ∃ (j cc : Nat) (ys : List Nat), j ≤ m + 1 ∧ jv = .int .i64 j ∧ bv = .int .i64 cc ∧ DS w wr gq gr gd cd (qs.set k 1) ys ds ∧ DSub zs ds (m + 1) j cc ys) (fun _ jv _ => m + 1 - (intOf jv).toNat)
                  case atStart => exact ⟨0, 0, zs, Nat.zero_le _, rfl, rfl, HQ1.out _, HZL.out, HZV.out, by omega, rfl, by simp [val]⟩
                  case round =>
                    clear HQ1
                    obtain ⟨j2, cc, ys, hj2, rfl, rfl, hds3, hsub⟩ := hrel
                    by_cases hjl : j2 < m + 1
                    · obtain ⟨x2, y2, hgx, hgy, hx2, hy2, hcc, hle2, hgt2⟩ := hsub.step hjl HZL.out HDL.out HDV.out
                      have hcell3 := hds3.r.cell' hgx
                      have hdcell3 := hds3.dcell' hgy
                      have hfr3 := hds3.r.frozen j2
                      have hgr3 := hds3.r.lt
                      by_cases hb : y2 + cc ≤ x2
                      · have HS : Hid (∀ n (e : Int), e = ((x2 - y2 - cc : Nat) : Int) → ∃ ys', DS w ((wr.drewN n).setCell ⟨gr, j2, none⟩ (.int .i64 e)) gq gr gd cd (qs.set k 1) ys' ds ∧ DSub zs ds (m + 1) (j2 + 1) 0 ys') :=
                          fun n e he => by subst he; exact ⟨_, (hds3.drewN n).setR _ _, hle2 hb⟩
                        clear hds3 hsub hle2 hgt2 hgx hgy
                        go_wp2_with fail
                        go_quiet (fail)
                        go_wp2_with fail
                        go_roundw
                        case rel =>
                          obtain ⟨ys', h1, h2⟩ := HS.out _ ((x2 : Int) - (y2 : Int) - (cc : Int)) (by omega)
                          exact ⟨j2 + 1, 0, ys', by omega, by go_num, rfl, h1, h2⟩
                        case measure => simp [intOf]; omega
                      · have hb' : x2 < y2 + cc := by omega
                        have HS : Hid (∀ n (e : Int), e = ((x2 + 32768 - y2 - cc : Nat) : Int) → ∃ ys', DS w ((wr.drewN n).setCell ⟨gr, j2, none⟩ (.int .i64 e)) gq gr gd cd (qs.set k 1) ys' ds ∧ DSub zs ds (m + 1) (j2 + 1) 1 ys') :=
                          fun n e he => by subst he; exact ⟨_, (hds3.drewN n).setR _ _, hgt2 hb'⟩
                        clear hds3 hsub hle2 hgt2 hgx hgy
                        go_wp2_with fail
                        go_quiet (fail)
                        go_wp2_with fail
                        go_roundw
                        case rel =>
                          obtain ⟨ys', h1, h2⟩ := HS.out _ ((x2 : Int) - (y2 : Int) - (cc : Int) + 32768) (by omega)
                          exact ⟨j2 + 1, 1, ys', by omega, by go_num, rfl, h1, h2⟩
                        case measure => simp [intOf]; omega
                    · obtain rfl : j2 = m + 1 := by omega
                      obtain ⟨hyl, hyv, hye⟩ := hsub.close HZL.out HDL.out HGE.out
                      have HO2 : Hid (DOut a b (m + 1) k (qs.set k 1) ys) := DOut.hit HO.out hyl hyv HZE.out (by rw [← HDE.out]; exact hye)
                      have HD3 := Lib.hid hds3
                      clear hds3 hsub hyl hyv hye HGE
                      go_wp2_with fail
                      go_roundw
                      case rel => exact ⟨k, qs.set k 1, ys, by go_num, by omega, by simpa using hql, HD3.out, HO2.out⟩
                      case measure => simp [intOf]
              · have hjp : 0 < j := by omega
                by_cases hxy : x = y
                · have HE2 := Lib.hid (HEQ.out hxy)
                  have hxi : decide ((x : Int) = (y : Int)) = true := by simp [hxy]
                  clear HLT HGT HEQ
                  subst hxy
                  go_wp2_with fail
                  go_quiet (fail)
                  go_wp2_with fail
                  go_roundw
                  case rel => exact ⟨j - 1, _, by go_num, by omega, by rw [show j - 1 + 1 = j from by omega]; exact HE2.out, rfl⟩
                  case measure => simp [intOf]; omega
                · have hxi : ((x : Int) == (y : Int)) = false := by simp; omega
                  by_cases hlt3 : x < y
                  · have HO2 : Hid (DOut a b (m + 1) k qs zs) := DOut.skip HO.out HZL.out HZV.out HZE.out (by rw [← HDE.out]; exact HLT.out hlt3)
                    clear HLT HGT HEQ
                    go_wp2_with fail
                    go_quiet (fail)
                    go_wp2_with fail
                    go_quiet (fail)
                    go_wp2_with fail
                    go_roundw
                    case rel => exact ⟨k, qs, zs, by go_num, by omega, hql, HD2.out _, HO2.out⟩
                    case measure => simp [intOf]
                  · have HGE : Hid (val B15 ds ≤ val B15 zs) := Nat.le_of_lt (HGT.out (by omega))
                    have hq1 := hqc
                    clear HLT HGT HEQ
                    go_wp2_with fail
                    go_quiet (fail)
                    go_wp2_with fail
                    go_quiet (fail)
                    go_wp2_with fail
                    go_loopw [15, 16] (fun bv jv wr => ∃ (j cc : Nat) (ys : List Nat), j ≤ m + 1 ∧ jv = .int .i64 j ∧ bv = .int .i64 cc ∧ DS w wr gq gr gd cd (qs.set k 1) ys ds ∧ DSub zs ds (m + 1) j cc ys) (fun _ jv _ => m + 1 - (intOf jv).toNat)
                    case atStart => exact ⟨0, 0, zs, Nat.zero_le _, rfl, rfl, HQ1.out _, HZL.out, HZV.out, by omega, rfl, by simp [val]⟩
                    case round =>
                      clear HQ1
                      obtain ⟨j2, cc, ys, hj2, rfl, rfl, hds3, hsub⟩ := hrel
                      by_cases hjl : j2 < m + 1
                      · obtain ⟨x2, y2, hgx, hgy, hx2, hy2, hcc, hle2, hgt2⟩ := hsub.step hjl HZL.out HDL.out HDV.out
                        have hcell3 := hds3.r.cell' hgx
                        have hdcell3 := hds3.dcell' hgy
                        have hfr3 := hds3.r.frozen j2
                        have hgr3 := hds3.r.lt
                        by_cases hb : y2 + cc ≤ x2
                        · have HS : Hid (∀ n (e : Int), e = ((x2 - y2 - cc : Nat) : Int) → ∃ ys', DS w ((wr.drewN n).setCell ⟨gr, j2, none⟩ (.int .i64 e)) gq gr gd cd (qs.set k 1) ys' ds ∧ DSub zs ds (m + 1) (j2 + 1) 0 ys') :=
                            fun n e he => by subst he; exact ⟨_, (hds3.drewN n).setR _ _, hle2 hb⟩
                          clear hds3 hsub hle2 hgt2 hgx hgy
                          go_wp2_with fail
                          go_quiet (fail)
                          go_wp2_with fail
                          go_roundw
                          case rel =>
                            obtain ⟨ys', h1, h2⟩ := HS.out _ ((x2 : Int) - (y2 : Int) - (cc : Int)) (by omega)
                            exact ⟨j2 + 1, 0, ys', by omega, by go_num, rfl, h1, h2⟩
                          case measure => simp [intOf]; omega
                        · have hb' : x2 < y2 + cc := by omega
                          have HS : Hid (∀ n (e : Int), e = ((x2 + 32768 - y2 - cc : Nat) : Int) → ∃ ys', DS w ((wr.drewN n).setCell ⟨gr, j2, none⟩ (.int .i64 e)) gq gr gd cd (qs.set k 1) ys' ds ∧ DSub zs ds (m + 1) (j2 + 1) 1 ys') :=
                            fun n e he => by subst he; exact ⟨_, (hds3.drewN n).setR _ _, hgt2 hb'⟩
                          clear hds3 hsub hle2 hgt2 hgx hgy
                          go_wp2_with fail
                          go_quiet (fail)
                          go_wp2_with fail
                          go_roundw
                          case rel =>
                            obtain ⟨ys', h1, h2⟩ := HS.out _ ((x2 : Int) - (y2 : Int) - (cc : Int) + 32768) (by omega)
                            exact ⟨j2 + 1, 1, ys', by omega, by go_num, rfl, h1, h2⟩
                          case measure => simp [intOf]; omega
                      · obtain rfl : j2 = m + 1 := by omega
                        obtain ⟨hyl, hyv, hye⟩ := hsub.close HZL.out HDL.out HGE.out
                        have HO2 : Hid (DOut a b (m + 1) k (qs.set k 1) ys) := DOut.hit HO.out hyl hyv HZE.out (by rw [← HDE.out]; exact hye)
                        have HD3 := Lib.hid hds3
                        clear hds3 hsub hyl hyv hye HGE
                        go_wp2_with fail
                        go_roundw
                        case rel => exact ⟨k, qs.set k 1, ys, by go_num, by omega, by simpa using hql, HD3.out, HO2.out⟩
                        case measure => simp [intOf]
end Go.Proofs.Ytfnmbhjifdfibaa
