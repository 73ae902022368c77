/- Contracts of package cylinderref01, fifth part: shifts. -/
import Derived.Laws.AppendOwnNone
import Derived.Test.YtcccabgeoaidjaaRefB
namespace Go.Proofs.Ytcccabgeoaidjaa
open Go.RowKit

section
variable {P : Program} {w : World} {ops : Array Oper} {rest : List Oper} {o : Oper} {a : Act} {Q : Exit → Act → World → Prop}
/-- 'append(s, x...)': the elements of another slice. -/
theorem wpList_appN (hgd : o.guard = none) (s x : Operand) (t : TypeId) (ho : o.op = .call { callee := .builtin .append, args := #[s, x], argTypes := #[t, t] })
    (B : Nat) (e : TypeId) (k : IntKind) (by_ : Nat) (ht : P.underlying t = some (.slice e)) (hi : (P.info? e).map (fun i => (i.zero, i.size, i.bytes)) = some (some (.int k 0), 1, by_)) (hb8 : by_ ≤ 8)
    (A : Option Addr) (c n : Nat) (ds : List Nat) (hn : ds.length = n) (hs : a.eval s = .slice A n c) (hown : Own w B k e A c ds)
    (X : Option Addr) (m c2 : Nat) (es : List Nat) (hm : es.length = m) (hx : a.eval x = .slice X m c2) (hrd : Rd w k X es) (hnz : X = none → c2 = 0)
    (hlen : n + m ≤ 17592186044000) (hB : B ≤ w.heap.size)
    (h : ∀ A' c' w', Own w' B k e A' c' (ds ++ es) → Below B w w' → wpList P ops Q rest (a.put o.dst (.slice A' (n + m) c')) w') : wpList P ops Q (o :: rest) a w := by
  subst hn
  subst hm
  obtain ⟨i, hi1, hz, hsz, hby⟩ := info_parts hi
  cases X with
  | none =>
    have hes : es = [] := by
      cases es with
      | nil => rfl
      | cons y ys => obtain ⟨_, _, h1, _⟩ := hrd 0 (by simp); cases h1
    subst hes
    rw [hnz rfl] at hx
    refine wpList_append_own_none (w := w) hgd s x t ho B e i 1 ht hi1 _ ds.length (nums k ds) hs hown hx ?_
    have := h A c w (by rw [List.append_nil]; exact hown) (Below.refl _ _)
    exact this
  | some ad =>
    refine wpList_append_own w hgd s x t ho B e i (.int k 0) 1 by_ ht hi1 hz hsz hby rfl (by omega) _ ds.length (nums k ds) hs hown ad es.length c2 (nums k es) hx (by simp [nums]) ?_ (nums_one k _) (by unfold maxLen; omega) ?_ hB ?_
    · intro j u hj
      rw [nums_get] at hj
      obtain ⟨dj, hdj, rfl⟩ := Option.map_eq_some_iff.1 hj
      obtain ⟨hlt, hget⟩ := List.getElem?_eq_some_iff.1 hdj
      obtain ⟨b, off, hA, _, hc⟩ := hrd j hlt
      injection hA with hA
      subst hA
      have : (⟨b, off, none⟩ : Addr).add j = ⟨b, off + j, none⟩ := by unfold Addr.add; split <;> simp_all
      rw [this, hc, hget]
    · have : (ds.length + es.length) * by_ ≤ (ds.length + es.length) * 8 := Nat.mul_le_mul_left _ hb8
      omega
    · intro v' w' how hgr hnil
      rw [← nums_append] at how
      have hb : Below B w w' := (Below.refl B w).grown hgr hB (fun k hk => hown.block_ge k hk)
      have hl : ds.length + es.length = (ds ++ es).length := by simp
      rcases how.2 with ⟨hv, hn⟩ | ⟨g', cap, cur, hv, hg', hh, r⟩
      · subst hv
        have e0 : ds ++ es = [] := List.eq_nil_of_length_eq_zero (by rw [← hl]; exact hn)
        have := h none 0 w' (by rw [e0]; exact Own.none_ _ _ _ _) hb
        rw [hn] at this
        exact this
      · subst hv
        have ho : Own w' B k e (some ⟨g', 0, none⟩) cap (ds ++ es) := by
          unfold Own
          rw [← hl]
          exact how
        exact h _ _ w' ho hb
end

theorem zeros_digs {a : Nat} (m : Nat) (ha : a ≠ 0) : List.replicate m 0 ++ digs 2 a = digs 2 (a * 2 ^ m) := by
  have hv : Valid 2 (List.replicate m 0 ++ digs 2 a) := valid_append.2 ⟨valid_replicate (by omega) _, valid_digs (by omega) a⟩
  have he : val 2 (List.replicate m 0 ++ digs 2 a) = a * 2 ^ m := by
    rw [val_append, val_replicate, val_digs (by omega), List.length_replicate, Nat.zero_add, Nat.mul_comm]
  rw [← he, digs_of_val (by omega) hv]
  have h1 := getLast_digs (B := 2) (by omega) a
  intro h2
  have h3 : digs 2 a ≠ [] := fun h => ha (by have := val_digs (B := 2) (by omega) a; rw [h] at this; exact this.symm)
  obtain ⟨es, e, h4⟩ : ∃ es e, digs 2 a = es ++ [e] := ⟨_, _, (List.dropLast_concat_getLast h3).symm⟩
  rw [h4] at h1 h2
  simp at h1 h2
  exact h1 h2
theorem Own.bn {w : World} {B : Nat} {A : Option Addr} {c n : Nat} (h : Own w B .i64 3 A c (digs 2 n)) : BN w A c n := by
  have hle := Own.le h
  unfold maxLen at hle
  refine ⟨Own.rd h, hle.1, by omega, ?_, Own.ty h⟩
  rintro rfl
  rcases Own.form h with ⟨_, h1, _⟩ | ⟨_, _, h1, _⟩
  · exact h1
  · cases h1

theorem up_any {w : World} {A : Option Addr} {c a m : Nat} (h : BN w A c a) (hs : bl a ≤ 8796093022000) (hm : m ≤ 8796093022000) :
    Calls Try.prog 15 #[.slice A (digs 2 a).length c, .int .i64 m] w (RetB w (a * 2 ^ m)) := by
  have HR := Lib.hid h.rd
  have hnz := h.nz
  have hle := h.le
  have hcap := h.cap
  unfold bl at hs
  have hB : w.heap.size ≤ w.heap.size := Nat.le_refl _
  clear h
  by_cases ha : a = 0
  · subst ha
    have hd : digs 2 0 = [] := rfl
    rw [hd] at HR hs hle
    rw [hd]
    clear hd hle
    have hz0 : (0 : Nat) * 2 ^ m = 0 := Nat.zero_mul _
    rw [hz0]
    clear hz0
    by_cases hm0 : 0 < m
    · go_enter Try.func15, Try.ntmps15
      go_wp2_with fail
      go_loopw [5, 6] (fun v i wr => v = .slice none 0 0 ∧ i = .int .i64 0 ∧ wr = w) (fun _ _ _ => 0)
      case atStart => exact ⟨rfl, rfl, rfl⟩
      case round =>
        obtain ⟨rfl, rfl, rfl⟩ := hrel
        go_wp2_with (at_builtin; refine wpList_appN rfl _ _ _ rfl wr.heap.size 3 .i64 8 Try.underlying28 info_int (by omega) none 0 0 [] rfl rfl (Own.none_ _ _ _ _) A 0 c [] rfl rfl HR.out hnz ?h3 ?h4 ?h5)
        case h3 => omega
        case h4 => omega
        case h5 =>
          intro A2 c2 w2 hown2 hb2
          go_wp2_with fail
          go_ret
          exact ⟨A2, c2, rfl, Own.bn (n := 0) hown2, hb2⟩
    · go_enter Try.func15, Try.ntmps15
      go_wp2_with fail
      go_loopw [5, 6] (fun v i wr => v = .slice none 0 0 ∧ i = .int .i64 0 ∧ wr = w) (fun _ _ _ => 0)
      case atStart => exact ⟨rfl, rfl, rfl⟩
      case round =>
        obtain ⟨rfl, rfl, rfl⟩ := hrel
        go_wp2_with (at_builtin; refine wpList_appN rfl _ _ _ rfl wr.heap.size 3 .i64 8 Try.underlying28 info_int (by omega) none 0 0 [] rfl rfl (Own.none_ _ _ _ _) A 0 c [] rfl rfl HR.out hnz ?h3 ?h4 ?h5)
        case h3 => omega
        case h4 => omega
        case h5 =>
          intro A2 c2 w2 hown2 hb2
          go_wp2_with fail
          go_ret
          exact ⟨A2, c2, rfl, Own.bn (n := 0) hown2, hb2⟩
  · have HZ := Lib.hid (zeros_digs m ha)
    have hpos : 0 < (digs 2 a).length := by
      rcases Nat.eq_zero_or_pos (digs 2 a).length with h | h
      · exact absurd (by have := val_digs (B := 2) (by omega) a; rw [List.eq_nil_of_length_eq_zero h] at this; exact this.symm) ha
      · exact h
    generalize digs 2 a = ds at *
    clear ha
    go_enter Try.func15, Try.ntmps15
    go_wp2_with fail
    go_loopw [5, 6] (fun v i wr => ∃ (k : Nat) (A' : Option Addr) (c' : Nat), k ≤ m ∧ i = .int .i64 k ∧ v = .slice A' k c' ∧ Own wr w.heap.size .i64 3 A' c' (List.replicate k 0) ∧ Ext w wr) (fun _ i _ => m - (intOf i).toNat)
    case atStart => exact ⟨0, none, 0, Nat.zero_le _, rfl, rfl, Own.none_ _ _ _ _, Ext.refl _⟩
    case round =>
      obtain ⟨k, A', c', hk, rfl, rfl, hown, hext⟩ := hrel
      have hbw := hext.size
      by_cases hlt : k < m
      · have hsn : List.replicate k 0 ++ [0] = List.replicate (k + 1) 0 := (List.replicate_succ' ..).symm
        have HSN := Lib.hid hsn
        clear hsn
        go_wp2_with (at_builtin; refine wpList_app1 rfl _ _ _ rfl w.heap.size 3 .i64 8 Try.underlying28 info_int (by omega) A' c' k (List.replicate k 0) (by simp) rfl (hown.below (Ext.alloc _ _)) wr.heap.size 0 rfl ?h2 ?h3 ?h4 ?h5)
        case h2 => simp
        case h3 => omega
        case h4 => simp; omega
        case h5 =>
          intro A2 c2 w2 hown2 hb2
          have hx2 : Ext w w2 := Below.trans hext (Below.trans (Below.mono (Ext.alloc wr _) hbw) hb2)
          rw [HSN.out] at hown2
          go_wp2_with fail
          go_roundw
          case rel => exact ⟨k + 1, A2, c2, by omega, by go_num, rfl, hown2, hx2⟩
          case measure => simp [intOf]; omega
      · obtain rfl : k = m := by omega
        have hrd := HR.out.below hext
        go_wp2_with (at_builtin; refine wpList_appN rfl _ _ _ rfl w.heap.size 3 .i64 8 Try.underlying28 info_int (by omega) A' c' k (List.replicate k 0) (by simp) rfl hown A ds.length c ds rfl rfl hrd hnz ?h3 ?h4 ?h5)
        case h3 => omega
        case h4 => omega
        case h5 =>
          intro A2 c2 w2 hown2 hb2
          have hx2 : Ext w w2 := Below.trans hext hb2
          rw [HZ.out] at hown2
          have HO := Lib.hid hown2
          have HL : Hid (k + ds.length = (digs 2 (a * 2 ^ k)).length) := by show _ = _; rw [← HZ.out]; simp
          clear hown2 hown
          go_wp2_with fail
          go_ret
          exact ⟨A2, c2, ret_slice HL.out, Own.bn HO.out, hx2⟩

theorem down_digs (a k : Nat) : (digs 2 a).drop k = digs 2 (a / 2 ^ k) := by
  have hv := valid_drop (valid_digs (B := 2) (by omega) a) k
  have h1 := val_drop_div (B := 2) (by omega) (valid_digs (B := 2) (by omega) a) k
  rw [val_digs (by omega)] at h1
  rw [← h1, digs_of_val (by omega) hv]
  intro h2
  have h3 := getLast_digs (B := 2) (by omega) a
  rw [List.getLast?_drop] at h2
  split at h2
  · cases h2
  · exact h3 h2

end Go.Proofs.Ytcccabgeoaidjaa
