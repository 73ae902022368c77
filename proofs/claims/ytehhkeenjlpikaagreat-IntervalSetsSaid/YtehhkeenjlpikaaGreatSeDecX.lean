/- Contracts of package decimal. -/
import Derived.Test.YtehhkeenjlpikaaGreatBase
import Derived.Lib.Strings
import Derived.Laws.Concat
import Derived.Test.YtehhkeenjlpikaaGreatRefs
import Derived.WalkLawsBesides
import Derived.WalkSpells
import Derived.BigRegion
import Derived.Deep.QuietTactic
import Derived.BigQuiet
import Derived.Test.YtehhkeenjlpikaaGreatIntX
import Derived.Deep.LoopGhost
namespace Go.Proofs.YtehhkeenjlpikaaGreat
open Go.RowKit
/-- The lowest c digits, padded by zeros. -/
def padded (b : Nat) : Nat → Nat → List Nat
  | 0, _ => []
  | c + 1, m => m % b :: padded b c (m / b)
theorem div_pow_succ' (b n c : Nat) : n / b / b ^ c = n / b ^ (c + 1) := by rw [Nat.div_div_eq_div_mul, Nat.pow_succ, Nat.mul_comm]
theorem digs_split {b : Nat} (hb : 2 ≤ b) : ∀ c n, n / b ^ c ≠ 0 → digs b n = padded b c n ++ digs b (n / b ^ c)
  | 0, n, _ => by simp [padded]
  | c + 1, n, h => by
    have hn : n ≠ 0 := fun e => h (by rw [e, Nat.zero_div])
    rw [digs_pos hb hn, digs_split hb c (n / b) (by rw [div_pow_succ']; exact h), div_pow_succ']
    rfl
theorem mod_pow_mod (b n c : Nat) : n % b ^ (c + 1) % b = n % b := Nat.mod_mod_of_dvd n (by rw [Nat.pow_succ]; exact Nat.dvd_mul_left b (b ^ c))
theorem mod_pow_div (b n c : Nat) : n % b ^ (c + 1) / b = n / b % b ^ c := by rw [Nat.pow_succ, Nat.mul_comm, Nat.mod_mul_right_div_self]
theorem padded_mod (b : Nat) : ∀ c n, padded b c (n % b ^ c) = padded b c n
  | 0, _ => rfl
  | c + 1, n => by
    show n % b ^ (c + 1) % b :: padded b c (n % b ^ (c + 1) / b) = n % b :: padded b c (n / b)
    rw [mod_pow_mod, mod_pow_div, padded_mod b c]
/-- The sign of a digit. -/
def sym (d : Nat) : Nat := if d < 10 then 48 + d else 87 + d
theorem sym_lt {d : Nat} (h : d < 36) : sym d < 128 := by unfold sym; split <;> omega
theorem sym_inj {d e : Nat} (h1 : d < 36) (h2 : e < 36) (h : sym d = sym e) : d = e := by unfold sym at h; split at h <;> split at h <;> omega
theorem sym_ne {d : Nat} : sym d ≠ 45 := by unfold sym; split <;> omega
/-- The text of an integer in a base: its bytes as numbers. -/
def fmtL (b : Nat) (x : Int) : List Nat := (if x < 0 then [45] else []) ++ (if x = 0 then [48] else ((digs b x.natAbs).map sym).reverse)
/-- The digits of 0 in a text are one zero. -/
def digs1 (b n : Nat) : List Nat := if n = 0 then [0] else digs b n
theorem fmtL_eq (b : Nat) (x : Int) : fmtL b x = (if x < 0 then [45] else []) ++ ((digs1 b x.natAbs).map sym).reverse := by
  unfold fmtL digs1
  congr 1
  by_cases h : x = 0
  · rw [if_pos h, if_pos (by omega)]; rfl
  · rw [if_neg h, if_neg (by omega)]
theorem map_sym_inj : ∀ {asx bs : List Nat}, (∀ a ∈ asx, a < 36) → (∀ b ∈ bs, b < 36) → asx.map sym = bs.map sym → asx = bs
  | [], [], _, _, _ => rfl
  | [], b :: bs, _, _, h => by simp at h
  | a :: asx, [], _, _, h => by simp at h
  | a :: asx, b :: bs, h1, h2, h => by
    rw [List.map_cons, List.map_cons] at h
    injection h with e1 e2
    rw [sym_inj (h1 a (List.mem_cons_self ..)) (h2 b (List.mem_cons_self ..)) e1, map_sym_inj (fun x hx => h1 x (List.mem_cons_of_mem _ hx)) (fun x hx => h2 x (List.mem_cons_of_mem _ hx)) e2]
theorem digs1_valid {b : Nat} (hb : 2 ≤ b) (n : Nat) : Valid b (digs1 b n) := by
  unfold digs1
  split
  · intro d hd; simp at hd; omega
  · exact valid_digs hb n
theorem val_digs1 {b : Nat} (hb : 2 ≤ b) (n : Nat) : val b (digs1 b n) = n := by
  unfold digs1
  split
  · rename_i h; rw [h]; rfl
  · exact val_digs hb n
theorem digs1_inj {b m n : Nat} (hb : 2 ≤ b) (h : digs1 b m = digs1 b n) : m = n := by
  have := congrArg (val b) h
  rwa [val_digs1 hb, val_digs1 hb] at this
theorem no_minus (ds : List Nat) (xs : List Nat) : (ds.map sym).reverse ≠ 45 :: xs := fun h => by
  have h1 : (45 : Nat) ∈ (ds.map sym).reverse := by rw [h]; exact List.mem_cons_self ..
  rw [List.mem_reverse, List.mem_map] at h1
  obtain ⟨d, _, hd⟩ := h1
  exact sym_ne hd
theorem fmtL_inj {b : Nat} {x y : Int} (hb : 2 ≤ b) (hb2 : b ≤ 36) (h : fmtL b x = fmtL b y) : x = y := by
  rw [fmtL_eq, fmtL_eq] at h
  have key : ((digs1 b x.natAbs).map sym).reverse = ((digs1 b y.natAbs).map sym).reverse → x.natAbs = y.natAbs := fun e => by
    have e1 := congrArg List.reverse e
    rw [List.reverse_reverse, List.reverse_reverse] at e1
    exact digs1_inj hb (map_sym_inj (fun a ha => Nat.lt_of_lt_of_le (digs1_valid hb _ a ha) hb2) (fun a ha => Nat.lt_of_lt_of_le (digs1_valid hb _ a ha) hb2) e1)
  by_cases h1 : x < 0 <;> by_cases h2 : y < 0
  · rw [if_pos h1, if_pos h2] at h
    have := key (List.append_cancel_left h)
    omega
  · rw [if_pos h1, if_neg h2] at h
    exact absurd h.symm (no_minus _ _)
  · rw [if_neg h1, if_pos h2] at h
    exact absurd h (no_minus _ _)
  · rw [if_neg h1, if_neg h2] at h
    have := key h
    omega
/-- The bytes of a string as numbers. -/
def bs (s : ByteArray) : List Nat := s.data.toList.map UInt8.toNat
theorem bs_length (s : ByteArray) : (bs s).length = s.size := by unfold bs; rw [List.length_map, Array.length_toList]; rfl
theorem bs_inj {s t : ByteArray} (h : bs s = bs t) : s = t := by
  have h1 : s.data.toList = t.data.toList := (List.map_inj_right (fun _ _ e => UInt8.toNat_inj.1 e)).1 h
  exact ByteArray.ext (Array.toList_inj.1 h1)
theorem bs_eq (s t : ByteArray) : (s.toList == t.toList) = decide (bs s = bs t) := by
  rw [Lib.toList_data, Lib.toList_data, Bool.eq_iff_iff, beq_iff_eq, decide_eq_true_iff]
  exact ⟨fun h => by unfold bs; rw [h], fun h => by rw [bs_inj h]⟩
theorem bs_append (s t : ByteArray) : bs (s ++ t) = bs s ++ bs t := by simp [bs, ByteArray.data_append]
/-- The string of numbers below 256. -/
def str (l : List Nat) : ByteArray := ⟨(l.map UInt8.ofNat).toArray⟩
theorem bs_str {l : List Nat} (h : ∀ x ∈ l, x < 256) : bs (str l) = l := by
  unfold bs str
  rw [List.map_map]
  conv => rhs; rw [← List.map_id l]
  apply List.map_congr_left
  intro x hx
  have := h x hx
  simp [UInt8.toNat_ofNat']
  omega
/-- The call returns a string of these bytes, and changes nothing. -/
def RetS (w : World) (l : List Nat) (e : Ending) (w' : World) : Prop := ∃ s, e = .returned (.string s) ∧ bs s = l ∧ Ext w w'
theorem pow_grow {b c : Nat} (hb : 2 ≤ b) (h : b ^ c < 4294967296) : c ≤ 31 := by
  rcases Nat.lt_or_ge 31 c with h1 | h1
  · have h2 : 2 ^ 32 ≤ 2 ^ c := Nat.pow_le_pow_right (by omega) h1
    have h3 : 2 ^ c ≤ b ^ c := Nat.pow_le_pow_left hb c
    omega
  · exact h1
theorem chunk_any {w : World} {b : Nat} (h1 : 2 ≤ b) (h2 : b ≤ 36) :
    Calls Tryz.prog 123 #[.int .i64 b] w fun e w' => (∃ p c : Nat, e = .returned (.tuple #[.int .u32 p, .int .i64 c]) ∧ p = b ^ c ∧ p < 4294967296 ∧ 1 ≤ c ∧ c ≤ 31) ∧ w = w' := by
  go_enter Tryz.func123, Tryz.ntmps123
  go_wp2_with fail
  go_loop [4, 5] (fun p c => ∃ m k : Nat, p = .int .u64 m ∧ c = .int .i64 k ∧ m = b ^ k ∧ m < 4294967296 ∧ 1 ≤ k) (fun p _ => 4294967296 - (intOf p).toNat)
  case atStart => exact ⟨b, 1, rfl, rfl, by simp, by omega, by omega⟩
  case round =>
    obtain ⟨m, k, rfl, rfl, hm, hl, hk1⟩ := hrel
    have hk2 : k ≤ 31 := pow_grow h1 (by omega)
    have HPP : Hid ((m : Int) * (b : Int) = ((m * b : Nat) : Int)) := (Int.natCast_mul m b).symm
    have hmb : m * b ≤ 4294967296 * 36 := Nat.mul_le_mul (by omega) h2
    have hm0 : 0 < m := by rw [hm]; exact Nat.pow_pos (by omega)
    have hmm : m < m * b := by have := Nat.mul_le_mul_left m h1; omega
    have HM := Lib.hid hm
    have HP : Hid (m * b = b ^ (k + 1)) := by show _ = _; rw [hm, Nat.pow_succ]
    have hq1 : 0 ≤ (m : Int) * (b : Int) := by rw [HPP.out]; omega
    have hq2 : (m : Int) * (b : Int) ≤ 154618822656 := by rw [HPP.out]; omega
    clear hm
    go_wp2_with fail
    · have hle' : (m : Int) * (b : Int) ≤ 4294967295 := by assumption
      rw [HPP.out] at hle'
      go_round
      case rel => exact ⟨m * b, k + 1, by go_num, by go_num, HP.out, by omega, by omega⟩
      case measure => simp [intOf]; omega
    · go_ret2
      exact ⟨⟨m, k, rfl, HM.out, hl, hk1, hk2⟩, rfl⟩
theorem Own.cell {w : World} {B c : Nat} {k : IntKind} {T : TypeId} {g i : Nat} {ds : List Nat} (h : Own w B k T (some ⟨g, 0, none⟩) c ds) (hi : i < ds.length) : w.cell? ⟨g, i, none⟩ = some (.int k (ds[i] : Nat)) := by
  obtain ⟨b, off, hA, _, hc⟩ := h.rd i hi
  injection hA with hA
  injection hA with h1 h2
  subst h1 h2
  simpa using hc
theorem Own.addr {w : World} {B c : Nat} {k : IntKind} {T : TypeId} {A : Option Addr} {ds : List Nat} (h : Own w B k T A c ds) (hn : ds ≠ []) : ∃ g, A = some ⟨g, 0, none⟩ ∧ B ≤ g := by
  rcases h.form with ⟨_, _, h1⟩ | ⟨g, cur, h1, hB, _⟩
  · exact absurd h1 hn
  · exact ⟨g, h1, hB⟩
/-- What holds at the head of a round of 'Reverse'. -/
def RevInv (w wr : World) (B g c : Nat) (ds : List Nat) (i j : Nat) : Prop :=
  ∃ zs : List Nat, Own wr B .u8 5 (some ⟨g, 0, none⟩) c zs ∧ zs.length = ds.length ∧ (∀ k, k < ds.length → zs[k]? = if k < i ∨ j < k then ds[ds.length - 1 - k]? else ds[k]?) ∧ Below B w wr
theorem RevInv.step {w wr : World} {B g c i j : Nat} {ds zs : List Nat} (ho : Own wr B .u8 5 (some ⟨g, 0, none⟩) c zs) (hl : zs.length = ds.length) (hv : ∀ k, k < ds.length → zs[k]? = if k < i ∨ j < k then ds[ds.length - 1 - k]? else ds[k]?)
    (hb : Below B w wr) (hij : i < j) (hs : i + j + 1 = ds.length) (hg : B ≤ g) {x y : Nat} (hx : zs[i]? = some x) (hy : zs[j]? = some y) :
    RevInv w (((wr.setCell ⟨g, i, none⟩ (.int .u8 (y : Int))).setCell ⟨g, j, none⟩ (.int .u8 (x : Int))).drew) B g c ds (i + 1) (j - 1) := by
  have ho' := (ho.set_ i y).set_ j x
  refine ⟨(zs.set i y).set j x, ho', by simpa using hl, fun k hk => ?_, ?_⟩
  · have hi := hv i (by omega)
    have hj := hv j (by omega)
    rw [if_neg (by omega), hx] at hi
    rw [if_neg (by omega), hy] at hj
    by_cases h1 : k = j
    · subst h1
      rw [List.getElem?_set_self (by simp; omega), if_pos (by omega), hi, show ds.length - 1 - k = i from by omega]
    · rw [List.getElem?_set_ne (by omega)]
      by_cases h2 : k = i
      · subst h2
        rw [List.getElem?_set_self (by omega), if_pos (by omega), hj, show ds.length - 1 - k = j from by omega]
      · rw [List.getElem?_set_ne (by omega), hv k hk]
        by_cases h3 : k < i ∨ j < k
        · rw [if_pos h3, if_pos (by omega)]
        · rw [if_neg h3, if_neg (by omega)]
  · exact Below.drew (Below.setCell (Below.setCell hb (p := ⟨g, i, none⟩) hg _) (p := ⟨g, j, none⟩) hg _)
theorem reverse_own {w : World} {B c n : Nat} {A : Option Addr} {ds : List Nat} (h : Own w B .u8 5 A c ds) (hn : n = ds.length) :
    Calls Tryz.prog 125 #[.slice A n c] w fun e w' => e = .returned (.tuple #[]) ∧ Own w' B .u8 5 A c ds.reverse ∧ Below B w w' := by
  subst hn
  have hcm := h.le
  unfold maxLen at hcm
  by_cases h0 : ds = []
  · subst h0
    have H := Lib.hid h
    clear h
    go_enter Tryz.func125, Tryz.ntmps125
    go_wp2_with fail
    go_loopw [2, 3] (fun i j wr => i = .int .i64 0 ∧ j = .int .i64 (-1) ∧ wr = w) (fun _ _ _ => 0)
    case atStart => exact ⟨rfl, rfl, rfl⟩
    case round =>
      obtain ⟨rfl, rfl, rfl⟩ := hrel
      go_wp2_with fail
      go_end0
      exact ⟨rfl, H.out, Below.refl _ _⟩
  · obtain ⟨g, rfl, hg⟩ := h.addr h0
    have hp : 0 < ds.length := List.length_pos_iff.2 h0
    have hinv : RevInv w w B g c ds 0 (ds.length - 1) := ⟨ds, h, rfl, fun k hk => by rw [if_neg (by omega)], Below.refl _ _⟩
    have HN : Hid (ds.length = ds.length) := rfl
    clear h
    go_enter Tryz.func125, Tryz.ntmps125
    go_wp2_with fail
    go_loopw [2, 3] (fun iv jv wr => ∃ i j : Nat, iv = .int .i64 i ∧ jv = .int .i64 ((ds.length : Int) - 1 - i) ∧ j + i + 1 = ds.length ∧ i ≤ ds.length ∧ RevInv w wr B g c ds i j) (fun i _ _ => ds.length - (intOf i).toNat)
    case atStart => exact ⟨0, ds.length - 1, rfl, by go_num, by omega, by omega, hinv⟩
    case round =>
      clear hinv
      obtain ⟨i, j, rfl, rfl, hs, hi, zs, ho, hl, hv, hb⟩ := hrel
      by_cases hij : i < j
      · have hci := ho.cell (i := i) (by omega)
        have hcj := ho.cell (i := j) (by omega)
        have hfi := ho.frozen i
        have hfj := ho.frozen j
        have hx : zs[i]? = some zs[i] := List.getElem?_eq_getElem (by omega)
        have hy : zs[j]? = some zs[j] := List.getElem?_eq_getElem (by omega)
        have hj : (ds.length : Int) - 1 - i = j := by omega
        generalize zs[i] = x at *
        generalize zs[j] = y at *
        have HS : Hid (RevInv w (((wr.setCell ⟨g, i, none⟩ (.int .u8 (y : Int))).setCell ⟨g, j, none⟩ (.int .u8 (x : Int))).drew) B g c ds (i + 1) (j - 1)) := RevInv.step ho hl hv hb hij (by omega) hg hx hy
        rw [hj]
        clear ho hl hv hb hx hy
        go_wp2_with fail
        go_region
        go_wp2_with fail
        go_roundw
        case rel => exact ⟨i + 1, j - 1, by go_num, by go_num, by omega, by omega, HS.out⟩
        case measure => simp [intOf]; omega
      · have HO := Lib.hid ho
        have hj : (ds.length : Int) - 1 - i = j := by omega
        have hr : zs = ds.reverse := by
          apply List.ext_getElem? 
          intro k
          by_cases hk : k < ds.length
          · rw [hv k hk, List.getElem?_reverse hk]
            by_cases h3 : k < i ∨ j < k
            · rw [if_pos h3]
            · rw [if_neg h3, show ds.length - 1 - k = k from by omega]
          · rw [List.getElem?_eq_none (by omega), List.getElem?_eq_none (by simp; omega)]
        subst hr
        rw [hj]
        clear hv hl ho
        go_wp2_with fail
        go_end0
        exact ⟨rfl, HO.out, hb⟩
/-- The new slice of an append lies in the old block, or in a fresh one. -/
def Near (w : World) (A A' : Option Addr) : Prop := A' = A ∨ ∃ g, A' = some ⟨g, 0, none⟩ ∧ w.heap.size ≤ g
section
variable {P : Program} {w : World} {ops : Array Oper} {rest : List Oper} {o : Oper} {a : Act} {Q : Exit → Act → World → Prop}
theorem run_append_near (base : Nat) (t ty e : TypeId) (i : TypeInfo) (z : Value) (size bytes : Nat) (ht : P.underlying t = some (.slice e)) (hi : P.info? e = some i) (hz : i.zero = some z)
    (hsize : i.size = size) (hby : i.bytes = bytes) (hzs : z.cells.size = size) (hsz : 0 < size)
    (A0 : Option Addr) (n c0 : Nat) (xs : List Value) (hown : w.ownsRow base e size (.slice A0 n c0) n xs)
    (ad : Addr) (m c : Nat) (news : List Value) (hl : news.length = m * size) (hnews : ∀ j u, news[j]? = some u → w.cell? (ad.add j) = some u) (h1 : ∀ u ∈ news, u.oneCell' = true)
    (h63 : n + m ≤ maxLen) (hbytes : (n + m) * bytes ≤ 140737488355328) (hbase : base ≤ w.heap.size) (hm : 0 < m) :
    ∃ A' c' w', (Builtin.append_ #[t, t] ty #[.slice A0 n c0, .slice (some ad) m c]).run P w = .ok (.slice A' (n + m) c') w' ∧ w'.ownsRow base e size (.slice A' (n + m) c') (n + m) (xs ++ news) ∧ w.grownBy w' (Value.slice A0 n c0).ownBlock ∧ Near w A0 A' := by
  obtain ⟨v', w', hr, h2, h3, h4⟩ := run_append_own (P := P) w base t ty e i z size bytes ht hi hz hsize hby hzs hsz _ n xs hown ad m c news hl hnews h1 h63 hbytes hbase
  have h2' := h2
  subst hsize
  subst hby
  have hsmall : n + m ≤ 9223372036854775807 := by simp only [maxLen] at h63; omega
  rcases h2.2 with ⟨rfl, h0⟩ | ⟨g', cap', cur', rfl, _⟩
  · omega
  · refine ⟨_, _, w', hr, h2', h3, ?_⟩
    rcases hown.2 with ⟨hv, hn⟩ | ⟨g, cap, cur, hv, hbg, hg, hnc, hcm, hcs, htake⟩
    · injection hv with hA hn0 hc0
      subst hA hn0 hc0
      have hx : xs = [] := List.eq_nil_of_length_eq_zero (by simpa using hown.1)
      subst hx
      have hr' := run_append_nil (P := P) w t ty e i z ht hi hz ad m c news hl hnews (by omega) (by omega) (by have hb := hbytes; simp only [Nat.zero_add] at hb; omega)
      rw [hr'] at hr
      injection hr with hr1 hr2
      injection hr1 with hA _ _
      exact .inr ⟨g', rfl, by injection hA with hA; injection hA with hA; omega⟩
    · injection hv with hA _ hc0
      subst hA hc0
      by_cases hroom : n + m ≤ c0
      · have hfit : n * i.size + news.length ≤ cur.size := by rw [hl, hcs, ← Nat.add_mul]; exact Nat.mul_le_mul_right _ hroom
        have hr' := run_append_room (P := P) w t ty e i ht hi g n c0 cur hg ad m c news hl hnews h1 hroom hfit
        rw [hr'] at hr
        injection hr with hr1 hr2
        injection hr1 with hA _ _
        exact .inl hA.symm
      · have holds : ∀ j u, xs[j]? = some u → w.cell? ((⟨g, 0, none⟩ : Addr).add j) = some u := hown.cells (g := g) rfl
        have hr' := run_append_grow (P := P) w t ty e i z ht hi hz ⟨g, 0, none⟩ n c0 xs hown.1 holds ad m c news hl hnews (by omega) (by omega) (growslice_fits (by omega) hbytes)
        rw [hr'] at hr
        injection hr with hr1 hr2
        injection hr1 with hA _ _
        exact .inr ⟨g', rfl, by injection hA with hA; injection hA with hA; omega⟩
/-- 'append(s, v)': one element; where the new slice lies. -/
theorem wpList_app1n (hgd : o.guard = none) (s x : Operand) (t : TypeId) (ho : o.op = .call { callee := .builtin .append, args := #[s, x], argTypes := #[t, t] })
    (B : Nat) (e : TypeId) (k : IntKind) (by_ : Nat) (ht : P.underlying t = some (.slice e)) (hi : (P.info? e).map (fun i => (i.zero, i.size, i.bytes)) = some (some (.int k 0), 1, by_)) (hb8 : by_ ≤ 8)
    (A : Option Addr) (c n : Nat) (ds : List Nat) (hn : ds.length = n) (hs : a.eval s = .slice A n c) (hown : Own w B k e A c ds)
    (g : Nat) (v : Nat) (hx : a.eval x = .slice (some ⟨g, 0, none⟩) 1 1) (hc : w.cell? ⟨g, 0, none⟩ = some (.int k (v : Int)))
    (hlen : n ≤ 17592186044000) (hB : B ≤ w.heap.size)
    (h : ∀ A' c' w', Own w' B k e A' c' (ds ++ [v]) → w.grownBy w' (Value.slice A n c).ownBlock → Near w A A' → wpList P ops Q rest (a.put o.dst (.slice A' (n + 1) c')) w') : wpList P ops Q (o :: rest) a w := by
  subst hn
  obtain ⟨i, hi1, hz, hsz, hby⟩ := info_parts hi
  refine wpList_plain hgd fun K hK => ?_
  have hb : (ds.length + 1) * by_ ≤ (ds.length + 1) * 8 := Nat.mul_le_mul_left _ hb8
  obtain ⟨A', c', w', hr, h2, h3, h4⟩ := run_append_near (P := P) B t o.type e i (.int k 0) 1 by_ ht hi1 hz hsz hby rfl (by omega) A ds.length c (nums k ds) hown ⟨g, 0, none⟩ 1 1 (nums k [v]) (by simp [nums]) (fun j u hj => by
    match j, hj with
    | 0, hj => simp [nums] at hj; subst hj; simpa [Addr.add] using hc
    | j + 1, hj => simp [nums] at hj) (nums_one k _) (by unfold maxLen; omega) (by omega) hB (by omega)
  unfold Oper.wp execOp
  simp only [ho, resolve, invoke, builtin, Sem.run_bind, Sem.run_pure, Result.andThen_ok, List.map_toArray, List.map_cons, List.map_nil, hs, hx, hr]
  refine hK _ _ (h A' c' w' ?_ h3 h4)
  rw [← nums_append] at h2
  unfold Own
  have hl : (ds ++ [v]).length = ds.length + 1 := by simp
  rw [hl]
  exact h2
end
/-- Nothing below B has changed, nor anything from N on that was there in w2; the slice at A lies below N or behind w2. -/
structure Mid (B N : Nat) (w2 wr : World) (A : Option Addr) : Prop where
  below : Below B w2 wr
  mid : ∀ k, N ≤ k → k < w2.heap.size → wr.heap[k]? = w2.heap[k]?
  size : w2.heap.size ≤ wr.heap.size
  far : ∀ g o s, A = some ⟨g, o, s⟩ → B ≤ g ∧ (g < N ∨ w2.heap.size ≤ g)
theorem Mid.start {B N c : Nat} {w w2 : World} {A : Option Addr} {k : IntKind} {T : TypeId} {ds : List Nat} (ho : Own w B k T A c ds) (hN : w.heap.size = N) : Mid B N w2 w2 A := by
  refine ⟨Below.refl _ _, fun _ _ _ => rfl, Nat.le_refl _, fun g o s e => ?_⟩
  rcases ho.form with ⟨h1, _⟩ | ⟨g', cur, h1, hB, hh, _⟩
  · rw [h1] at e; cases e
  · rw [h1] at e
    injection e with e
    injection e with e1
    subst e1
    exact ⟨hB, .inl (by rw [← hN]; exact (Array.getElem?_eq_some_iff.1 hh).1)⟩
theorem Mid.grown {B N n c : Nat} {w2 wr wx w3 : World} {A A' : Option Addr} (h : Mid B N w2 wr A) (hB : B ≤ w2.heap.size) (hx : Ext wr wx) (hg : wx.grownBy w3 (Value.slice A n c).ownBlock) (hn : Near wx A A') : Mid B N w2 w3 A' := by
  have hs := hx.size
  have hgs := hg.size
  have hne : ∀ k, (k < B ∨ (N ≤ k ∧ k < w2.heap.size)) → some k ≠ (Value.slice A n c).ownBlock := by
    intro k hk e
    cases A with
    | none => cases e
    | some p =>
      obtain ⟨g, o, s⟩ := p
      have := h.far g o s rfl
      injection e with e
      simp at e
      omega
  have hs2 := h.size
  refine ⟨⟨hg.os.trans (hx.os.trans h.below.os), hg.tape.trans (hx.tape.trans h.below.tape), hg.output.trans (hx.output.trans h.below.output), by omega, fun k hk => ?_⟩, fun k h1 h2 => ?_, by omega, fun g o s e => ?_⟩
  · exact (hg.block k (by omega) (hne k (.inl hk))).trans ((hx.block k (by omega)).trans (h.below.block k hk))
  · exact (hg.block k (by omega) (hne k (.inr ⟨h1, h2⟩))).trans ((hx.block k (by omega)).trans (h.mid k h1 h2))
  · rcases hn with rfl | ⟨g', rfl, hg'⟩
    · exact h.far g o s e
    · injection e with e
      injection e with e1
      subst e1
      exact ⟨by omega, .inr (by omega)⟩
/-- What was made in the middle is kept. -/
theorem Own.mid {B N c : Nat} {w2 wr : World} {A A7 : Option Addr} {k : IntKind} {T : TypeId} {ds : List Nat} (ho : Own w2 N k T A c ds) (h : Mid B N w2 wr A7) : Own wr N k T A c ds := by
  refine ⟨ho.1, ?_⟩
  rcases ho.2 with h2 | ⟨g, cap, cur, hv, hg, hh, r⟩
  · exact .inl h2
  · exact .inr ⟨g, cap, cur, hv, hg, (h.mid g hg (Array.getElem?_eq_some_iff.1 hh).1).trans hh, r⟩
/-- What is still to come of a part: all its digits, or so many. -/
def rem_ (last : Bool) (b c m : Nat) : List Nat := if last then digs b m else padded b c m
theorem rem_step {last : Bool} {b c m : Nat} (hb : 2 ≤ b) (hc : 0 < c) (hm : last = true → m ≠ 0) : rem_ last b c m = m % b :: rem_ last b (c - 1) (m / b) := by
  obtain ⟨d, rfl⟩ : ∃ d, c = d + 1 := ⟨c - 1, by omega⟩
  unfold rem_
  cases last
  · rfl
  · rw [if_pos rfl, if_pos rfl, digs_pos hb (hm rfl)]
theorem rem_end {last : Bool} {b c m : Nat} (hl : m < b ^ c) (h : c = 0 ∨ (last = true ∧ m = 0)) : rem_ last b c m = [] := by
  unfold rem_
  rcases h with rfl | ⟨rfl, rfl⟩
  · have hm : m = 0 := by simpa using hl
    subst hm
    split <;> rfl
  · rw [if_pos rfl]; rfl
theorem rem_lt {b c m : Nat} (hc : 0 < c) (hl : m < b ^ c) : m / b < b ^ (c - 1) := by
  obtain ⟨d, rfl⟩ : ∃ d, c = d + 1 := ⟨c - 1, by omega⟩
  rw [Nat.pow_succ] at hl
  exact Nat.div_lt_of_lt_mul (by rw [Nat.mul_comm]; exact hl)
theorem digs_rem {b c n : Nat} (hb : 2 ≤ b) : digs b n = rem_ (n / b ^ c == 0) b c (n % b ^ c) ++ digs b (n / b ^ c) := by
  unfold rem_
  by_cases h : n / b ^ c = 0
  · have hlt : n < b ^ c := by
      rcases Nat.lt_or_ge n (b ^ c) with h1 | h1
      · exact h1
      · have := Nat.div_pos h1 (Nat.pow_pos (by omega)); omega
    rw [if_pos (by simpa using h), h, Nat.mod_eq_of_lt hlt, digs_zero, List.append_nil]
  · rw [if_neg (by simpa using h), padded_mod, digs_split hb c n h]
theorem info_u8 : (Tryz.prog.info? 5).map (fun i => (i.zero, i.size, i.bytes)) = some (some (.int .u8 0), 1, 1) := by kernel_rfl
theorem sym_at : ∀ (i : Fin 36), (ByteArray.mk #[48, 49, 50, 51, 52, 53, 54, 55, 56, 57, 97, 98, 99, 100, 101, 102, 103, 104, 105, 106, 107, 108, 109, 110, 111, 112, 113, 114, 115, 116, 117, 118, 119, 120, 121, 122])[i.val].toNat = sym i.val := by decide
theorem sym_at' {i : Nat} (h : i < 36) {h' : i < (ByteArray.mk #[48, 49, 50, 51, 52, 53, 54, 55, 56, 57, 97, 98, 99, 100, 101, 102, 103, 104, 105, 106, 107, 108, 109, 110, 111, 112, 113, 114, 115, 116, 117, 118, 119, 120, 121, 122]).size} : (ByteArray.mk #[48, 49, 50, 51, 52, 53, 54, 55, 56, 57, 97, 98, 99, 100, 101, 102, 103, 104, 105, 106, 107, 108, 109, 110, 111, 112, 113, 114, 115, 116, 117, 118, 119, 120, 121, 122])[i].toNat = sym i := sym_at ⟨i, h⟩
/-- The end of an inner round of 'format'. -/
theorem fmt_step {last : Bool} {b cnt i m m' : Nat} {es : List Nat} (hb : 2 ≤ b) (hi : i < cnt) (hg : last = true → m' ≠ 0) (he : es ++ rem_ last b (cnt - i) m' = rem_ last b cnt m) (hm : m' < b ^ (cnt - i)) :
    (es ++ [m' % b]) ++ rem_ last b (cnt - (i + 1)) (m' / b) = rem_ last b cnt m ∧ m' / b < b ^ (cnt - (i + 1)) := by
  have h1 := rem_step hb (show 0 < cnt - i by omega) hg
  have h2 := rem_lt (show 0 < cnt - i by omega) hm
  rw [show cnt - (i + 1) = cnt - i - 1 from by omega]
  exact ⟨by rw [← he, h1, List.append_assoc]; rfl, h2⟩
theorem digs_len {b X : Nat} (hb : 2 ≤ b) : (digs b X).length ≤ 32 * dl X := by
  refine digs_len_le hb ?_
  have h1 := lt_pow_len B32_two X
  have h2 : B32 ^ (digs B32 X).length = 2 ^ (32 * dl X) := by rw [Nat.pow_mul]; rfl
  have h3 : 2 ^ (32 * dl X) ≤ b ^ (32 * dl X) := Nat.pow_le_pow_left hb _
  omega
/-- 'string(out)' of an own slice. -/
theorem own_string {w : World} {B c : Nat} {A : Option Addr} {ds : List Nat} (h : Own w B .u8 5 A c ds) (h0 : ds ≠ []) (hv : ∀ d ∈ ds, d < 256) :
    (convert 147 9 (.slice A ds.length c)).run Tryz.prog w = .ok (.string (str ds)) w := by
  obtain ⟨g, rfl, _⟩ := h.addr h0
  have := run_convert_bytes_back (P := Tryz.prog) w 147 9 5 ⟨g, 0, none⟩ c (ds.map UInt8.ofNat) Tryz.underlying147 Tryz.underlying5 Tryz.underlying9 (fun j hj => by
    have hj' : j < ds.length := by simpa using hj
    have h1 := h.cell hj'
    have h2 := hv ds[j] (List.getElem_mem hj')
    have hadd : (⟨g, 0, none⟩ : Addr).add j = ⟨g, j, none⟩ := by unfold Addr.add; split <;> simp_all
    rw [hadd, h1]
    simp [UInt8.toNat_ofNat']
    omega)
  rw [List.length_map] at this
  exact this
theorem sym256 {b : Nat} {ds : List Nat} (h2 : b ≤ 36) (hv : Valid b ds) : ∀ d ∈ ds.map sym, d < 256 := by
  intro d hd
  rw [List.mem_map] at hd
  obtain ⟨e, he, rfl⟩ := hd
  have := sym_lt (d := e) (by have := hv e he; omega)
  omega
theorem RetS.of {w w' : World} {l : List Nat} (h : ∀ x ∈ l, x < 256) (hx : Ext w w') : RetS w l (.returned (.string (str l))) w' := ⟨_, rfl, bs_str h, hx⟩
theorem format_nz {w : World} {s : Bool} {A : Option Addr} {c L b : Nat} {x : Int} (h : ZV w s A c L x) (h1 : 2 ≤ b) (h2 : b ≤ 36) (hx : x ≠ 0) (hs : dl x.natAbs ≤ 1000000) :
    Calls Tryz.prog 103 #[.agg #[.bool s, .slice A L c], .int .i64 b] w (RetS w (fmtL b x)) := by
  have hsg : (x.sign == 0) = false := by simpa using hx
  obtain ⟨w0, hw0⟩ : ∃ z : World, z = w.alloc (.cells #[.bool s, .slice A L c] 25) := ⟨_, rfl⟩
  have hx0 : Ext w w0 := by rw [hw0]; exact Ext.alloc _ _
  have hb := box_new w (.bool s) (.slice A L c) 25
  rw [← hw0] at hb
  obtain ⟨e1, e2, _⟩ := hb
  go_enter Tryz.func103, Tryz.ntmps103
  go_wp2_with fail
  rw [← hw0]
  refine (sign_z (h.ext hx0)).mono ?_
  rintro e w1 ⟨rfl, hx1⟩
  have d1 := hx1.cell e1
  have d2 := hx1.cell e2
  have hx2 := hx0.trans hx1
  generalize x.sign = sg at *
  clear hw0 e1 e2 hx0 hx1
  go_wp2_with fail
  refine (chunk_any h1 h2).mono ?_
  rintro e w' ⟨⟨p, cnt, rfl, hp, hp2, hc1, hc2⟩, rfl⟩
  have HP := Lib.hid hp
  have hp0 : 2 ≤ p := by
    rw [hp]
    exact Nat.le_trans h1 (by conv => lhs; rw [← Nat.pow_one b]
                              exact Nat.pow_le_pow_right (by omega) hc1)
  clear hp
  have HN := Lib.hid (h.ext hx2).nv
  generalize hX : x.natAbs = X at *
  have hlen : (digs b X).length ≤ 32000000 := Nat.le_trans (digs_len h1) (by omega)
  have HX := Lib.hid hX
  clear hX
  go_wp2_with fail
  go_loopg [7, 8] X (fun k o7 o8 wr => ∃ (out : List Nat) (A7 : Option Addr) (c7 n : Nat) (A8 : Option Addr) (c8 L8 : Nat), o7 = .slice A7 out.length c7 ∧ Own wr w1.heap.size .u8 5 A7 c7 (out.map sym) ∧ o8 = .slice A8 L8 c8 ∧ NV wr A8 c8 L8 n ∧ digs b X = out ++ digs b n ∧ n ≤ X ∧ n ≤ k ∧ Ext w1 wr)
  case atStart => exact ⟨[], none, 0, X, A, c, L, rfl, Own.none_ _ _ _ _, rfl, HN.out, rfl, Nat.le_refl _, Nat.le_refl _, Ext.refl _⟩
  case round =>
    obtain ⟨out, A7, c7, n, A8, c8, L8, rfl, ho, rfl, hn, hd, hnX, hk, hext⟩ := hrel
    have hol : out.length ≤ 32000000 := by have := congrArg List.length hd; rw [List.length_append] at this; omega
    obtain ⟨wo, rfl⟩ : ∃ wo : World, wo = wr := ⟨_, rfl⟩
    have HO := Lib.hid ho
    have HD := Lib.hid hd
    have HV := Lib.hid hn
    clear ho hd hn
    go_wp2_with fail
    refine (isZero_v HV.out).mono ?_
    rintro e w' ⟨rfl, rfl⟩
    by_cases hz : (n == 0) = true
    · have hn0 : n = 0 := by simpa using hz
      subst hn0
      have hdo : out = digs b X := by rw [HD.out, digs_zero, List.append_nil]
      have c1 := hext.cell d1
      have hX0 : X ≠ 0 := by rw [← HX.out]; omega
      have hneO : out ≠ [] := fun e => by rw [e] at hdo; exact hX0 ((digs_eq_nil h1).1 hdo.symm)
      have hvO : ∀ d ∈ out.map sym, d < 256 := by rw [hdo]; exact sym256 h2 (valid_digs h1 X)
      have HXW : Hid (Ext w wo) := hx2.trans hext
      have HF : Hid (∀ v : Bool, s = v → fmtL b x = (if v then [45] else []) ++ (out.map sym).reverse) := fun v hv => by
        have h5 := h.neg
        have h6 := h.pos
        unfold fmtL
        rw [if_neg hx, HX.out, ← hdo]
        cases v
        · rw [if_neg (by have := h6 hv; omega)]; rfl
        · rw [if_pos (by have := h5 hv; omega)]; rfl
      have hsz := hx2.size
      have hsz2 := hext.size
      clear hdo hX0
      cases s with
      | false =>
        have hfl := HF.out false rfl
        go_wp2_with fail
        refine (reverse_own HO.out (by simp)).mono ?_
        rintro e w5 ⟨rfl, ho5, hb5⟩
        have hx5 : Ext w w5 := Below.trans HXW.out (Below.mono hb5 hsz)
        have hcv := own_string ho5 (by simpa using hneO) (fun d hd => hvO d (List.mem_reverse.1 hd))
        rw [List.length_reverse, List.length_map] at hcv
        go_wp2_with fail
        go_ret
        rw [hfl]
        exact RetS.of (fun d hd => hvO d (List.mem_reverse.1 hd)) hx5
      | true =>
        have hfl := HF.out true rfl
        go_wp2_with (at_builtin; refine wpList_app1n rfl _ _ _ rfl w1.heap.size 5 .u8 1 Tryz.underlying147 info_u8 (by omega) A7 c7 out.length (out.map sym) (by simp) rfl (HO.out.below (Ext.alloc _ _)) wo.heap.size 45 rfl ?h2 ?h3 ?h4 ?h5)
        case h2 =>
          rw [cell_of_row _ _ 0 _ _ (0, 0) (heap_alloc_new _ _)]
          simp
        case h3 => omega
        case h4 => simp; omega
        case h5 =>
          intro A10 c10 w4 hown hgr hnear
          have hx4 := (Mid.grown (Mid.start (B := w1.heap.size) HO.out rfl) hsz2 (Ext.alloc wo _) hgr hnear).below
          have HOW := Lib.hid hown
          clear hown hgr hnear
          go_wp2_with fail
          refine (reverse_own HOW.out (by simp)).mono ?_
          rintro e w5 ⟨rfl, ho5, hb5⟩
          have hx5 : Ext w w5 := Below.trans HXW.out (Below.mono (Below.trans hx4 hb5) hsz)
          have hv5 : ∀ d ∈ (out.map sym ++ [45]).reverse, d < 256 := fun d hd => by
            rcases List.mem_append.1 (List.mem_reverse.1 hd) with h | h
            · exact hvO d h
            · simp at h; omega
          have hcv := own_string ho5 (by simp) hv5
          rw [List.length_reverse, List.length_append, List.length_map] at hcv
          have HS : Hid (RetS w (fmtL b x) (.returned (.string (str (out.map sym ++ [45]).reverse))) w5) := by
            show RetS _ _ _ _
            rw [hfl]
            have := RetS.of hv5 hx5
            simpa using this
          simp at hcv
          go_wp2_with fail
          go_ret
          have := HS.out
          simpa using this
    · have hz' : (n == 0) = false := by simpa using hz
      have hn0 : n ≠ 0 := by simpa using hz
      clear hz
      go_wp2_with fail
      have hdl : dl n ≤ dl X := dl_mono hnX
      have hdv := divSmall_v (d := p) HV.out (by omega) hp2 (by omega)
      have HR : Hid (digs b X = out ++ (rem_ (n / p == 0) b cnt (n % p) ++ digs b (n / p))) := by show _ = _; rw [HD.out, HP.out, ← digs_rem h1]
      have HM : Hid (n % p < b ^ cnt) := by show _ < _; rw [← HP.out]; exact Nat.mod_lt _ (by omega)
      have hq : n / p < n := Nat.div_lt_self (by omega) (by omega)
      have hmp : n % p < 4294967296 := by have := Nat.mod_lt n (show p > 0 by omega); omega
      have HQ := Lib.hid hq
      clear hz' hq hdl
      generalize n % p = m at *
      generalize n / p = q at *
      refine hdv.mono ?_
      clear hdv
      rintro e w2 ⟨A2, c2, rfl, hno, hx3⟩
      have hnv := hno.nv
      go_wp2_with fail
      refine (isZero_v hnv).mono ?_
      rintro e w' ⟨rfl, rfl⟩
      have ho2 := HO.out.below hx3
      have hxx := hext.trans hx3
      have HNO := Lib.hid hno
      clear hno
      generalize (q == 0) = lb at *
      go_wp2_with fail
      obtain ⟨wz, hwz⟩ : ∃ z : World, z = w2 := ⟨_, rfl⟩
      go_loopw [7, 9, 11] (fun o7 pv iv wr => ∃ (es : List Nat) (A7 : Option Addr) (c7 m' i : Nat), o7 = .slice A7 (out.length + es.length) c7 ∧ pv = .int .u32 m' ∧ iv = .int .i64 i ∧ i ≤ cnt ∧ Own wr w1.heap.size .u8 5 A7 c7 ((out ++ es).map sym) ∧ m' < 4294967296 ∧ es ++ rem_ lb b (cnt - i) m' = rem_ lb b cnt m ∧ m' < b ^ (cnt - i) ∧ es.length ≤ i ∧ Mid w1.heap.size wo.heap.size w2 wr A7) (fun _ _ iv _ => cnt - (intOf iv).toNat)
      case atStart => exact ⟨[], A7, c7, m, 0, rfl, rfl, rfl, Nat.zero_le _, by simpa using ho2, hmp, rfl, HM.out, by simp, Mid.start HO.out rfl⟩
      case round =>
        obtain ⟨es, A9, c9, m', i, rfl, rfl, rfl, hi, ho, hm', hes, hmb, hel, hx4⟩ := hrel
        have HO := Lib.hid ho
        have HES := Lib.hid hes
        have HMB := Lib.hid hmb
        clear ho hes hmb
        have hpc : decide (i < cnt) = true → cnt - i ≤ cnt := fun _ => Nat.sub_le _ _
        clear hpc
        by_cases hgo : i < cnt ∧ (lb = true → m' ≠ 0)
        · have hmod : m' % b < 36 := Nat.lt_of_lt_of_le (Nat.mod_lt _ (by omega)) h2
          have hb0 : 0 < b := by omega
          have HDV : Hid ((m' : Int) / (b : Int) % 4294967296 = ((m' / b : Nat) : Int)) := by
            show _ = _
            have h5 : ((m' / b : Nat) : Int) = (m' : Int) / (b : Int) := Int.natCast_ediv _ _
            have h6 := Nat.div_le_self m' b
            rw [← h5]
            clear h5
            generalize m' / b = z at h6 ⊢
            omega
          have hst := fmt_step h1 hgo.1 hgo.2 HES.out HMB.out
          have hi2 := hgo.1
          cases lb with
          | false =>
            go_wp2_with (at_builtin; refine wpList_app1n rfl _ _ _ rfl w1.heap.size 5 .u8 1 Tryz.underlying147 info_u8 (by omega) A9 c9 (out.length + es.length) ((out ++ es).map sym) (by simp) rfl (HO.out.below (Ext.alloc _ _)) wr.heap.size (sym (m' % b)) rfl ?h2 ?h3 ?h4 ?h5)
            case h2 =>
              rw [cell_of_row _ _ 0 _ _ (0, 0) (heap_alloc_new _ _)]
              simp [sym_at' hmod]
            case h3 => omega
            case h4 =>
              have h6 := hxx.size
              have h7 := hx4.size
              simp
              omega
            case h5 =>
              intro A10 c10 w3 hown hgr hnear
              have hx5 := Mid.grown hx4 hxx.size (Ext.alloc wr _) hgr hnear
              have HO2 : Hid (Own w3 w1.heap.size .u8 5 A10 c10 ((out ++ (es ++ [m' % b])).map sym)) := by show Own _ _ _ _ _ _ _; simpa using hown
              clear hown
              go_wp2_with fail
              go_roundw
              case rel => exact ⟨es ++ [m' % b], A10, c10, m' / b, i + 1, by rw [List.length_append]; rfl, by rw [HDV.out], by go_num, by omega, HO2.out, by have := Nat.div_le_self m' b; omega, hst.1, hst.2, by rw [List.length_append]; simp; omega, hx5⟩
              case measure => simp [intOf]; omega
          | true =>
            have hm0 : ((m' : Int) == 0) = false := by have := hgo.2 rfl; simp; omega
            go_wp2_with (at_builtin; refine wpList_app1n rfl _ _ _ rfl w1.heap.size 5 .u8 1 Tryz.underlying147 info_u8 (by omega) A9 c9 (out.length + es.length) ((out ++ es).map sym) (by simp) rfl (HO.out.below (Ext.alloc _ _)) wr.heap.size (sym (m' % b)) rfl ?h2 ?h3 ?h4 ?h5)
            case h2 =>
              rw [cell_of_row _ _ 0 _ _ (0, 0) (heap_alloc_new _ _)]
              simp [sym_at' hmod]
            case h3 => omega
            case h4 =>
              have h6 := hxx.size
              have h7 := hx4.size
              simp
              omega
            case h5 =>
              intro A10 c10 w3 hown hgr hnear
              have hx5 := Mid.grown hx4 hxx.size (Ext.alloc wr _) hgr hnear
              have HO2 : Hid (Own w3 w1.heap.size .u8 5 A10 c10 ((out ++ (es ++ [m' % b])).map sym)) := by show Own _ _ _ _ _ _ _; simpa using hown
              clear hown
              go_wp2_with fail
              go_roundw
              case rel => exact ⟨es ++ [m' % b], A10, c10, m' / b, i + 1, by rw [List.length_append]; rfl, by rw [HDV.out], by go_num, by omega, HO2.out, by have := Nat.div_le_self m' b; omega, hst.1, hst.2, by rw [List.length_append]; simp; omega, hx5⟩
              case measure => simp [intOf]; omega
        · have hre : rem_ lb b (cnt - i) m' = [] := by
            refine rem_end HMB.out ?_
            by_cases h5 : i < cnt
            · right
              cases lb
              · exact absurd ⟨h5, fun h => by cases h⟩ hgo
              · refine ⟨rfl, ?_⟩
                by_cases h6 : m' = 0
                · exact h6
                · exact absurd ⟨h5, fun _ => h6⟩ hgo
            · left; omega
          have hes2 : es = rem_ lb b cnt m := by rw [← HES.out, hre, List.append_nil]
          have HNV : Hid (NV wr A2 c2 (digs B32 q).length q) := NO.nv (Own.mid HNO.out hx4)
          have HXX : Hid (Ext w1 wr) := Below.trans hxx hx4.below
          have HDD : Hid (digs b X = (out ++ es) ++ digs b q) := by show _ = _; rw [HR.out, hes2, List.append_assoc]
          have HOO : Hid (Value.slice A9 (out.length + es.length) c9 = Value.slice A9 (out ++ es).length c9) := by show _ = _; rw [List.length_append]
          have hqn := HQ.out
          clear hes2 hre hx4
          by_cases h5 : i < cnt
          · have h6 : ¬ (lb = true → m' ≠ 0) := fun h => hgo ⟨h5, h⟩
            have h7 : lb = true := by
              cases lb
              · exact absurd (fun h => by cases h) h6
              · rfl
            have h8 : m' = 0 := by
              by_cases h9 : m' = 0
              · exact h9
              · exact absurd (fun _ => h9) h6
            clear h6 hgo
            subst h7 h8
            go_wp2_with fail
            rw [HOO.out]
            go_roundg q
            case measure => omega
            case rel => exact ⟨out ++ es, A9, c9, q, A2, c2, _, rfl, HO.out, rfl, HNV.out, HDD.out, by omega, Nat.le_refl _, HXX.out⟩
          · clear hgo
            go_wp2_with fail
            rw [HOO.out]
            go_roundg q
            case measure => omega
            case rel => exact ⟨out ++ es, A9, c9, q, A2, c2, _, rfl, HO.out, rfl, HNV.out, HDD.out, by omega, Nat.le_refl _, HXX.out⟩
theorem format_z {w : World} {s : Bool} {A : Option Addr} {c L b : Nat} {x : Int} (h : ZV w s A c L x) (h1 : 2 ≤ b) (h2 : b ≤ 36) (hs : dl x.natAbs ≤ 1000000) :
    Calls Tryz.prog 103 #[.agg #[.bool s, .slice A L c], .int .i64 b] w (RetS w (fmtL b x)) := by
  by_cases hx : x = 0
  · have hsg : (x.sign == 0) = true := by simpa using hx
    have hf : fmtL b x = [48] := by rw [hx]; rfl
    obtain ⟨w0, hw0⟩ : ∃ z : World, z = w.alloc (.cells #[.bool s, .slice A L c] 25) := ⟨_, rfl⟩
    have hx0 : Ext w w0 := by rw [hw0]; exact Ext.alloc _ _
    have hb := box_new w (.bool s) (.slice A L c) 25
    rw [← hw0] at hb
    obtain ⟨e1, e2, _⟩ := hb
    rw [hf]
    clear hf hx
    go_enter Tryz.func103, Tryz.ntmps103
    go_wp2_with fail
    rw [← hw0]
    refine (sign_z (h.ext hx0)).mono ?_
    rintro e w1 ⟨rfl, hx1⟩
    generalize x.sign = sg at *
    clear hw0 e1 e2 h hs
    go_wp2_with fail
    go_ret
    exact ⟨_, rfl, rfl, hx0.trans hx1⟩
  · exact format_nz h h1 h2 hx hs
theorem Format_z {w : World} {s : Bool} {A : Option Addr} {c L : Nat} {x : Int} (h : ZV w s A c L x) (hs : dl x.natAbs ≤ 1000000) :
    Calls Tryz.prog 74 #[.agg #[.bool s, .slice A L c]] w (RetS w (fmtL 10 x)) := by
  go_enter Tryz.func74, Tryz.ntmps74
  go_wp2_with fail
  refine (format_z (b := 10) (h.ext (Ext.alloc _ _)) (by omega) (by omega) hs).mono ?_
  rintro e w1 ⟨t, rfl, ht, hx⟩
  go_wp2_with fail
  go_ret
  exact ⟨t, rfl, ht, (Ext.alloc _ _).trans hx⟩
theorem fmt_le {b : Nat} (hb : 2 ≤ b) (x : Int) : (fmtL b x).length ≤ 32 * dl x.natAbs + 2 := by
  have h1 := digs_len (X := x.natAbs) hb
  have h2 : (digs1 b x.natAbs).length ≤ 32 * dl x.natAbs + 1 := by
    unfold digs1
    split
    · simp
    · omega
  rw [fmtL_eq, List.length_append, List.length_reverse, List.length_map]
  split <;> simp <;> omega
end Go.Proofs.YtehhkeenjlpikaaGreat
