/- Contracts of package cylinderref01, third part: words, bits, products, quotients. -/
import Derived.Test.YtfnmbhjifdfibaaRefB
namespace Go.Proofs.Ytfnmbhjifdfibaa
open Go.RowKit

theorem size_int : (Try.prog.info? 3).map (·.size) = some 1 := by kernel_rfl

/-- The base of the words of the reference. -/
def B15 : Nat := 32768
theorem B15_eq : B15 = 2 ^ 15 := rfl
/-- The call returns a new row of L words of value n. -/
def RetW (w : World) (L n : Nat) (e : Ending) (w' : World) : Prop :=
  ∃ g zs, e = .returned (.slice (some ⟨g, 0, none⟩) L L) ∧ w.heap.size ≤ g ∧ Row w' g .i64 3 zs ∧ zs.length = L ∧ Valid B15 zs ∧ val B15 zs = n ∧ Ext w w'
/-- The head of a round of 'words'. -/
def WInv (w wr : World) (g L n k : Nat) : Prop := ∃ zs, Row wr g .i64 3 zs ∧ zs.length = L ∧ Valid B15 zs ∧ val B15 zs = n % 2 ^ k ∧ Ext w wr
theorem WInv.cell {w wr : World} {g L n k : Nat} (h : WInv w wr g L n k) (hk : k / 15 < L) (hg : w.heap.size ≤ g) :
    ∃ d : Nat, wr.cell? ⟨g, k / 15, none⟩ = some (.int .i64 (d : Nat)) ∧ wr.frozen? ⟨g, k / 15, none⟩ = false ∧ d + bitN n k * 2 ^ (k % 15) < 32768 ∧
      ∀ e : Int, e = ((d + bitN n k * 2 ^ (k % 15) : Nat) : Int) → WInv w (wr.setCell ⟨g, k / 15, none⟩ (.int .i64 e)).drew g L n (k + 1) := by
  obtain ⟨zs, hz, hl, hv, he, hext⟩ := h
  have hq : k / 15 < zs.length := by omega
  obtain ⟨h1, h2⟩ := lay_bit (K := 15) (n := n) (i := k) (by omega) hq he
  refine ⟨zs[k / 15], hz.cell hq, hz.frozen _, h1, ?_⟩
  rintro e rfl
  exact ⟨_, (hz.set_ _ _).drew, by simpa using hl, valid_set hv _ _ h1, h2, Below.drew (Below.setCell hext (p := ⟨g, k / 15, none⟩) hg _)⟩

theorem words_any {w : World} {A : Option Addr} {c n : Nat} (h : BN w A c n) (hs : bl n ≤ 8796093022208) :
    Calls Try.prog 136 #[.slice A (digs 2 n).length c] w (RetW w ((bl n + 14) / 15) n) := by
  have hr := h.rd
  have HG : Hid (∀ i (hi : i < (digs 2 n).length), (digs 2 n)[i] = bitN n i) := fun i hi => digs_get hi
  have HN : Hid (n % 2 ^ (digs 2 n).length = n) := Nat.mod_eq_of_lt (lt_pow_len (by omega) n)
  clear h
  unfold bl at hs ⊢
  generalize digs 2 n = bs at *
  have HR := Lib.hid hr
  clear hr
  go_enter Try.func136, Try.ntmps136
  go_wp2_with (at_make; refine wpList_mkrow rfl _ _ _ rfl _ _ _ Try.underlying34 info_int (by omega) _ _ _ ((bs.length + 14) / 15) rfl rfl (by omega) (by omega) ?_)
  intro g w1 hg hrow hx
  have hinv : WInv w w1 g ((bs.length + 14) / 15) n 0 := ⟨_, hrow, by simp, valid_replicate (by unfold B15; omega) _, by simp [val_replicate, Nat.mod_one], hx⟩
  clear hrow hx
  go_wp2_with fail
  go_loopw [4] (fun i wr => ∃ k : Nat, k ≤ bs.length ∧ i = .int .i64 k ∧ WInv w wr g ((bs.length + 14) / 15) n k) (fun i _ => bs.length - (intOf i).toNat)
  case atStart => exact ⟨0, Nat.zero_le _, rfl, hinv⟩
  case round =>
    clear hinv
    obtain ⟨k, hk, rfl, hinv⟩ := hrel
    by_cases hlt : k < bs.length
    · have hext : Ext w wr := by obtain ⟨_, _, _, _, _, h⟩ := hinv; exact h
      obtain ⟨b1, o1, rfl, hb1, hc0⟩ := HR.out.at_ (j := k) hlt
      rw [HG.out k hlt] at hc0
      have hc1 := hext.cell hc0
      have hbit := bitN_lt n k
      obtain ⟨d, hcell, hfr, hd1, hstep⟩ := WInv.cell hinv (by omega) hg
      have HS := Lib.hid hstep
      clear hinv hstep hc0
      have hz1 : (k : Int) / 15 < (((bs.length + 14) / 15 : Nat) : Int) := by omega
      have hz2 : (0 : Int) ≤ (k : Int) / 15 := by omega
      have hz3 : IntKind.i64.wrap ((k : Int) / 15) = (k : Int) / 15 := IntWalk.i64_in _ (by omega)
      have hz4 : ((k : Int) / 15).toNat = k / 15 := by omega
      generalize bitN n k = bt at *
      go_wp2_with fail
      go_region
      have hI : ((bt * 2 ^ (k % 15) : Nat) : Int) = (bt : Int) * 2 ^ (k % 15) := by simp
      have hS := HS.out (wrap64 ((d : Int) + wrap64 ((bt : Int) * 2 ^ (k % 15)))) (by rw [← hI, IntWalk.wrap64_in ((bt * 2 ^ (k % 15) : Nat) : Int) (by omega), IntWalk.wrap64_in _ (by omega)]; omega)
      have HS2 := Lib.hid hS
      clear hS hI hd1 hz2 hz3 hz4 hcell hfr hc1
      go_wp2_with fail
      go_roundw
      case rel => exact ⟨k + 1, by omega, by go_num, HS2.out⟩
      case measure => simp [intOf]; omega
    · obtain rfl : k = bs.length := by omega
      obtain ⟨zs, hz, hl, hv, he, hext⟩ := hinv
      rw [HN.out] at he
      go_wp2_with fail
      go_ret
      exact ⟨g, zs, rfl, hg, hz, hl, hv, he, hext⟩

/-- 'bits': words back to bits. -/
theorem rbits_any {w : World} {A : Option Addr} {c n : Nat} {ws : List Nat} (hr : Rd w .i64 A ws) (hv : Valid B15 ws) (hn : val B15 ws = n) (hs : ws.length ≤ 586406201480) :
    Calls Try.prog 137 #[.slice A ws.length c] w (RetB w n) := by
  have HR := Lib.hid hr
  have HV := Lib.hid hv
  have HG : Hid (∀ k (h : k / 15 < ws.length), bitN n k = ws[k / 15] / 2 ^ (k % 15) % 2) := fun k h => by rw [← hn]; exact bitN_digitK (K := 15) (by omega) hv k h
  have HN : Hid (val 2 (bitsUpto n (15 * ws.length)) = n) := by
    show _ = _
    rw [bitsUpto_val, Nat.pow_mul]
    apply Nat.mod_eq_of_lt
    rw [← hn]
    exact val_lt hv
  clear hr hv hn
  go_enter Try.func137, Try.ntmps137
  go_wp2_with (at_make; refine wpList_mkrow rfl _ _ _ rfl _ _ _ Try.underlying34 info_int (by omega) _ _ _ (15 * ws.length) rfl rfl (by omega) (by omega) ?_)
  intro g w1 hg hrow hx
  go_wp2_with fail
  go_loopw [4] (fun i wr => ∃ (k : Nat) (zs : List Nat), k ≤ 15 * ws.length ∧ i = .int .i64 k ∧ Row wr g .i64 3 zs ∧ zs.length = 15 * ws.length ∧ zs.take k = bitsUpto n k ∧ Ext w wr) (fun i _ => 15 * ws.length - (intOf i).toNat)
  case atStart => exact ⟨0, _, Nat.zero_le _, rfl, hrow, by simp, by simp [bitsUpto], hx⟩
  case round =>
    clear hrow
    obtain ⟨k, zs, hk, rfl, hz, hl, ht, hext⟩ := hrel
    by_cases hlt : k < 15 * ws.length
    · have hq : k / 15 < ws.length := by omega
      obtain ⟨b1, o1, rfl, hb1, hc1⟩ := (HR.out.below hext).at_ (j := k / 15) hq
      have HB := Lib.hid (HG.out k hq)
      have hwb : ws[k / 15] < 32768 := valid_get HV.out _ hq
      obtain ⟨z0, hcell⟩ := hz.some_ (i := k) (by omega)
      have hfr := hz.frozen k
      have HS : Hid (∀ e : Int, e = (bitN n k : Int) → ∃ zs', Row (wr.setCell ⟨g, k, none⟩ (.int .i64 e)) g .i64 3 zs' ∧ zs'.length = 15 * ws.length ∧ zs'.take (k + 1) = bitsUpto n (k + 1) ∧ Ext w (wr.setCell ⟨g, k, none⟩ (.int .i64 e))) := by
        rintro e rfl
        exact ⟨zs.set k (bitN n k), hz.set_ _ _, by simpa using hl, by rw [take_set_lt (by omega), ht, bitsUpto_succ], Below.setCell hext (p := ⟨g, k, none⟩) hg _⟩
      clear hz hl ht
      generalize ws[k / 15] = x at *
      go_wp2_with fail
      go_roundw
      case rel =>
        obtain ⟨zs', h1, h2, h3, h4⟩ := HS.out (((x : Int) / 2 ^ (k % 15)).tmod 2) (by
          have e : ((x / 2 ^ (k % 15) : Nat) : Int) = (x : Int) / 2 ^ (k % 15) := by simp
          rw [HB.out, ← e]
          rfl)
        exact ⟨k + 1, zs', by omega, by go_num, h1, h2, h3, h4⟩
      case measure => simp [intOf]; omega
    · obtain rfl : k = 15 * ws.length := by omega
      rw [← hl, List.take_length, hl] at ht
      have hml : zs.length ≤ maxLen := by rw [hl]; unfold maxLen; omega
      have hown : Own wr w.heap.size .i64 3 (some ⟨g, 0, none⟩) zs.length zs := Own.of_row' hz hg hml rfl (List.take_length)
      obtain ⟨h1, h2⟩ := trim_own (n := n) hown (by rw [ht]; exact bitsUpto_valid _ _) (by rw [ht]; exact HN.out)
      rw [hl] at h1 h2
      have HT := Lib.hid h1
      have HB := Lib.hid h2
      clear hz hl ht hown h1 h2
      go_wp2_with fail
      refine HT.out.mono ?_
      rintro e w' ⟨rfl, rfl⟩
      go_wp2_with fail
      go_ret
      exact ⟨_, _, rfl, HB.out, hext⟩

/-- The head of a round of the outer loop of the reference's product. -/
def RMOut (w wr : World) (g : Nat) (da db : List Nat) (i : Nat) : Prop :=
  ∃ zs, Row wr g .i64 3 zs ∧ zs.length = da.length + db.length ∧ Valid B15 zs ∧ val B15 zs = val B15 (da.take i) * val B15 db ∧
    zs.drop (i + db.length) = List.replicate (da.length - i) 0 ∧ Ext w wr
/-- The head of a round of its inner loop: Z the row at its start. -/
def RMIn (w wr : World) (g : Nat) (da db Z : List Nat) (x i j c : Nat) : Prop :=
  ∃ zs, Row wr g .i64 3 zs ∧ zs.length = da.length + db.length ∧ Valid B15 zs ∧ zs.drop (i + j) = Z.drop (i + j) ∧
    val B15 (zs.take (i + j)) + B15 ^ (i + j) * c = val B15 (Z.take (i + j)) + B15 ^ i * (x * val B15 (db.take j)) ∧ Ext w wr

theorem RMIn.step {w w2 : World} {g : Nat} {da db Z zs : List Nat} {x i j c s c' old : Nat} (hj : j < db.length) (hi : i < da.length) (hZ : Z.length = da.length + db.length)
    (hz : Row w2 g .i64 3 zs) (hl : zs.length = da.length + db.length) (hv : Valid B15 zs) (hd : zs.drop (i + j) = Z.drop (i + j))
    (he : val B15 (zs.take (i + j)) + B15 ^ (i + j) * c = val B15 (Z.take (i + j)) + B15 ^ i * (x * val B15 (db.take j)))
    (hold : Z[i + j]? = some old) (hs : s + 32768 * c' = x * db[j] + old + c) (hsb : s < 32768) (hg : w.heap.size ≤ g) (hext : Ext w w2) :
    RMIn w (w2.setCell ⟨g, i + j, none⟩ (.int .i64 (s : Int))) g da db Z x i (j + 1) c' := by
  refine ⟨zs.set (i + j) s, hz.set_ _ _, by simpa using hl, valid_set hv _ _ hsb, ?_, ?_, Below.setCell hext (p := ⟨g, i + j, none⟩) hg _⟩
  · rw [← Nat.add_assoc, List.drop_set_of_lt (by omega)]
    have h1 := congrArg (List.drop 1) hd
    rwa [List.drop_drop, List.drop_drop] at h1
  · rw [← Nat.add_assoc, val_set B15 (by omega), val_take_succ B15 Z (i + j) (by omega), val_take_succ B15 db j hj]
    have ho : Z[i + j]'(by omega) = old := by
      rw [List.getElem?_eq_getElem (by omega)] at hold
      injection hold
    rw [ho, Nat.pow_succ, Nat.pow_add]
    rw [Nat.pow_add] at he
    have := sb_math (B := B15) (s := s) (c' := c') (y := db[j]) (old := old) he hs
    rw [← Nat.mul_assoc (B15 ^ i)] at this
    exact this

theorem RMIn.close {w w2 : World} {g : Nat} {da db Z zs : List Nat} {x i c : Nat} (hi : i < da.length) (hx : da[i] = x) (hZ : Z.length = da.length + db.length)
    (hz : Row w2 g .i64 3 zs) (hl : zs.length = da.length + db.length) (hv : Valid B15 zs) (hd : zs.drop (i + db.length) = Z.drop (i + db.length))
    (he : val B15 (zs.take (i + db.length)) + B15 ^ (i + db.length) * c = val B15 (Z.take (i + db.length)) + B15 ^ i * (x * val B15 (db.take db.length)))
    (hc : c < 32768) (hZv : val B15 Z = val B15 (da.take i) * val B15 db) (hZd : Z.drop (i + db.length) = List.replicate (da.length - i) 0) (hg : w.heap.size ≤ g) (hext : Ext w w2) :
    RMOut w (w2.setCell ⟨g, i + db.length, none⟩ (.int .i64 (c : Int))) g da db (i + 1) := by
  have hk : i + db.length < zs.length := by omega
  have hdz : (zs.set (i + db.length) c).drop (i + 1 + db.length) = List.replicate (da.length - (i + 1)) 0 := by
    rw [show i + 1 + db.length = i + db.length + 1 from by omega, List.drop_set_of_lt (by omega)]
    have h1 := congrArg (List.drop 1) (hd.trans hZd)
    rw [List.drop_drop, List.drop_replicate] at h1
    rw [h1]
    congr 1
  refine ⟨zs.set (i + db.length) c, hz.set_ _ _, by simpa using hl, valid_set hv _ _ hc, ?_, hdz, Below.setCell hext (p := ⟨g, i + db.length, none⟩) hg _⟩
  rw [val_split B15 _ (i + 1 + db.length), hdz, val_replicate, Nat.mul_zero, Nat.add_zero, show i + 1 + db.length = i + db.length + 1 from by omega, val_set B15 hk, he, List.take_length,
    val_take_succ B15 da i hi, hx, Nat.add_mul, ← hZv]
  have h2 : val B15 Z = val B15 (Z.take (i + db.length)) := by
    conv => lhs; rw [val_split B15 Z (i + db.length), hZd, val_replicate, Nat.mul_zero, Nat.add_zero]
  rw [h2, Nat.mul_assoc]


theorem rm_digit {x y old c : Nat} (hx : x < 32768) (hy : y < 32768) (ho : old < 32768) (hc : c < 32768) :
    (x * y + old + c) / 32768 < 32768 ∧ (x * y + old + c) % 32768 < 32768 ∧ (x * y + old + c) % 32768 + 32768 * ((x * y + old + c) / 32768) = x * y + old + c ∧ x * y ≤ 1073676289 := by
  have hb : x * y ≤ 32767 * 32767 := Nat.mul_le_mul (by omega) (by omega)
  generalize x * y = P at *
  omega

theorem rmul_any {w : World} {A1 A2 : Option Addr} {c1 c2 a b : Nat} (h1 : BN w A1 c1 a) (h2 : BN w A2 c2 b) (hs1 : bl a ≤ 2199023255552) (hs2 : bl b ≤ 2199023255552) :
    Calls Try.prog 108 #[.slice A1 (digs 2 a).length c1, .slice A2 (digs 2 b).length c2] w (RetB w (a * b)) := by
  have t1 := Lib.hid (words_any h1 (by omega))
  have t2 : Hid (∀ w', Ext w w' → Calls Try.prog 136 #[.slice A2 (digs 2 b).length c2] w' (RetW w' ((bl b + 14) / 15) b)) := fun w' hx => words_any (h2.ext hx) (by omega)
  clear h1 h2
  go_enter Try.func108, Try.ntmps108
  go_wp2_with fail
  refine t1.out.mono ?_
  rintro e w1 ⟨gx, xs, rfl, hgx, hzx, hlx, hvx, hex, hx1⟩
  go_wp2_with fail
  refine (t2.out w1 hx1).mono ?_
  rintro e w2 ⟨gy, ys, rfl, hgy, hzy, hly, hvy, hey, hx2⟩
  have hzx2 := hzx.ext hx2
  have hxx := hx1.trans hx2
  have hLx : xs.length ≤ 146601550371 := by omega
  have hLy : ys.length ≤ 146601550371 := by omega
  rw [← hlx, ← hly]
  clear hzx hlx hly t1 t2 hx1 hx2 hgx hgy
  have HZX := Lib.hid hzx2
  have HZY := Lib.hid hzy
  have HVX := Lib.hid hvx
  have HVY := Lib.hid hvy
  have HEX := Lib.hid hex
  have HEY := Lib.hid hey
  clear hzx2 hzy hvx hvy hex hey
  go_wp2_with (at_make; refine wpList_mkrow rfl _ _ _ rfl _ _ _ Try.underlying34 info_int (by omega) _ _ _ (xs.length + ys.length) rfl rfl (by omega) (by omega) ?_)
  intro g w3 hg hrow hx
  have hinv : RMOut w2 w3 g xs ys 0 := ⟨_, hrow, by simp, valid_replicate (by unfold B15; omega) _, by simp [val, val_replicate], by simp, hx⟩
  clear hrow hx
  go_wp2_with fail
  go_loopw [8] (fun i wr => ∃ k : Nat, k ≤ xs.length ∧ i = .int .i64 k ∧ RMOut w2 wr g xs ys k) (fun i _ => xs.length - (intOf i).toNat)
  case atStart => exact ⟨0, Nat.zero_le _, rfl, hinv⟩
  case round =>
    clear hinv
    obtain ⟨i, hi, rfl, hinv⟩ := hrel
    by_cases hlt : i < xs.length
    · obtain ⟨Z, hz, hl, hv, he, hd, hext⟩ := hinv
      have hx : xs[i] < 32768 := valid_get HVX.out i hlt
      have hin : RMIn w2 wr g xs ys Z xs[i] i 0 0 := ⟨Z, hz, hl, hv, rfl, by simp [val], hext⟩
      have HL := Lib.hid hl
      have HE := Lib.hid he
      have HD := Lib.hid hd
      have HCX : Hid (∀ wr, Ext w2 wr → wr.cell? ⟨gx, i, none⟩ = some (.int .i64 (xs[i] : Nat))) := fun wr hx => (HZX.out.ext hx).cell hlt
      clear hz hl hv he hd hext
      generalize hxe : xs[i] = x at *
      have HXE := Lib.hid hxe
      clear hxe
      go_wp2_with fail
      obtain ⟨wo, rfl⟩ : ∃ wo : World, wo = wr := ⟨_, rfl⟩
      go_loopw [9, 10] (fun cv jv wr => ∃ j cc : Nat, j ≤ ys.length ∧ jv = .int .i64 j ∧ cv = .int .i64 cc ∧ cc < 32768 ∧ RMIn w2 wr g xs ys Z x i j cc) (fun _ jv _ => ys.length - (intOf jv).toNat)
      case atStart => exact ⟨0, 0, Nat.zero_le _, rfl, rfl, by omega, hin⟩
      case round =>
        clear hin
        obtain ⟨j, cc, hj, rfl, rfl, hcc, hin⟩ := hrel
        by_cases hjl : j < ys.length
        · obtain ⟨zs, hz, hl, hv, hd, he, hext⟩ := hin
          have hcx := HCX.out wr hext
          have hcy : wr.cell? ⟨gy, j, none⟩ = some (.int .i64 (ys[j] : Nat)) := (HZY.out.ext hext).cell hjl
          have hy : ys[j] < 32768 := valid_get HVY.out j hjl
          have hij : i + j < zs.length := by omega
          have hold : Z[i + j]? = some zs[i + j] := by
            have h3 := congrArg (fun l => l[0]?) hd
            simp only [List.getElem?_drop, Nat.add_zero] at h3
            rw [← h3, List.getElem?_eq_getElem hij]
          have ho : zs[i + j] < 32768 := valid_get hv _ hij
          have hcell : wr.cell? ⟨g, i + j, none⟩ = some (.int .i64 (zs[i + j] : Nat)) := hz.cell hij
          have hfr := hz.frozen (i + j)
          obtain ⟨hq1, hq2, hq3, hq4⟩ := rm_digit hx hy ho hcc
          have HS : Hid (∀ n (e : Int), e = ((x * ys[j] + zs[i + j] + cc) % 32768 : Nat) → RMIn w2 ((wr.drewN n).setCell ⟨g, i + j, none⟩ (.int .i64 e)) g xs ys Z x i (j + 1) ((x * ys[j] + zs[i + j] + cc) / 32768)) :=
            fun n e he0 => by
              subst he0
              exact RMIn.step hjl hlt HL.out (hz.drewN n) hl hv hd he hold hq3 hq2 (by omega) (hext.trans (Qt.ext ⟨n, rfl⟩))
          have hxy : ((x * ys[j] : Nat) : Int) = (x : Int) * (ys[j] : Int) := Int.natCast_mul _ _
          have hijl : i + j < xs.length + ys.length := by omega
          clear hz hl hv hd he hold
          generalize zs[i + j] = old at *
          generalize ys[j] = y at *
          have hi1 : IntKind.i64.wrap ((i : Int) + (j : Int)) = (i : Int) + (j : Int) := IntWalk.i64_in _ (by omega)
          have hi2 : (0 : Int) ≤ (i : Int) + (j : Int) := by omega
          have hi3 : ((i : Int) + (j : Int)).toNat = i + j := by omega
          have hi4 : (i : Int) + (j : Int) < ((xs.length + ys.length : Nat) : Int) := by omega
          go_wp2_with fail
          go_quiet (fail)
          have hS : (old : Int) + (x : Int) * (y : Int) + (cc : Int) = ((x * y + old + cc : Nat) : Int) := by omega
          rw [hS]
          clear hq3 hq4 hxy hS hcx hcy hx hy ho
          generalize x * y + old + cc = S at *
          go_wp2_with fail
          go_roundw
          case rel => exact ⟨j + 1, S / 32768, by omega, by go_num, by go_num, hq1, HS.out _ _ (by go_num)⟩
          case measure => simp [intOf]; omega
        · obtain rfl : j = ys.length := by omega
          obtain ⟨zs, hz, hl, hv, hd, he, hext⟩ := hin
          have hij : i + ys.length < zs.length := by omega
          have hz0 : zs[i + ys.length] = 0 := by
            have h3 := congrArg (fun l => l[0]?) (hd.trans HD.out)
            simp only [List.getElem?_drop, Nat.add_zero] at h3
            rw [List.getElem?_eq_getElem hij, List.getElem?_replicate, if_pos (by omega)] at h3
            injection h3
          have hcell : wr.cell? ⟨g, i + ys.length, none⟩ = some (.int .i64 (zs[i + ys.length] : Nat)) := hz.cell hij
          rw [hz0] at hcell
          have hfr := hz.frozen (i + ys.length)
          have HS : Hid (∀ e : Int, e = (cc : Int) → RMOut w2 (wr.setCell ⟨g, i + ys.length, none⟩ (.int .i64 e)) g xs ys (i + 1)) := by
            rintro e rfl
            exact RMIn.close hlt HXE.out HL.out hz hl hv hd he hcc HE.out HD.out hg hext
          have hijl : i + ys.length < xs.length + ys.length := by omega
          clear hz hl hv hd he hext hij hz0
          go_wp2_with fail
          go_roundw
          case rel => exact ⟨i + 1, by omega, by go_num, HS.out _ (by go_num)⟩
          case measure => simp [intOf]; omega
    · obtain rfl : i = xs.length := by omega
      obtain ⟨Z, hz, hl, hv, he, hd, hext⟩ := hinv
      rw [List.take_length, HEX.out, HEY.out] at he
      have hrd := hz.rd Z.length
      rw [List.take_length] at hrd
      have ht := rbits_any (c := Z.length) hrd hv he (by omega)
      rw [hl] at ht
      have HT := Lib.hid ht
      have hx3 := hxx.trans hext
      clear hz hl hv he hd hext ht hrd
      go_wp2_with fail
      refine HT.out.mono ?_
      rintro e w' ⟨A, c, rfl, hb, hx4⟩
      go_wp2_with fail
      go_ret
      exact ⟨A, c, rfl, hb, hx3.trans hx4⟩
end Go.Proofs.Ytfnmbhjifdfibaa
