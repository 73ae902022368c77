/- Contracts of natural.Shr, Shl, BitLen, Bit. -/
import Derived.Test.YtfnmbhjifdfibaaNatC
namespace Go.Proofs.Ytfnmbhjifdfibaa
open Go.RowKit

/-- The head of a round of 'Shr': the digits so far. -/
def ShrInv (w wr : World) (g i s : Nat) (ts : List Nat) : Prop :=
  ∃ zs, Row wr g .u32 139 zs ∧ zs.length = ts.length ∧ zs.take i = (shrD s ts).take i ∧ Ext w wr

theorem ShrInv.step {w wr : World} {g i s : Nat} {v : Int} {ts : List Nat} (h : ShrInv w wr g i s ts) (hi : i < ts.length) (hg : w.heap.size ≤ g) (hv : v = (((ts[i] + 4294967296 * (ts[i + 1]?.getD 0)) / 2 ^ s % 4294967296 : Nat) : Int)) :
    ShrInv w (wr.setCell ⟨g, i, none⟩ (.int .u32 v)) g (i + 1) s ts := by
  subst hv
  obtain ⟨zs, hz, hl, he, hext⟩ := h
  refine ⟨zs.set i _, hz.set_ _ _, by simpa using hl, ?_, Below.setCell hext (p := ⟨g, i, none⟩) hg _⟩
  have hi2 : i < (shrD s ts).length := by rw [shrD_length]; exact hi
  rw [take_set_lt (by omega), List.take_succ_eq_append_getElem hi2, he, shrD_get s ts i hi2]

theorem or_digits {x y : Nat} (hx : x < 4294967296) (hy : y < 4294967296) : bits BinOp.or IntKind.u64 (x : Int) ((y : Int) * 4294967296) = ((x + 4294967296 * y : Nat) : Int) := by
  have h := u64_or_nat x (y * 4294967296) (by omega) (by omega)
  rw [Nat.or_comm, hi_lo y x hx] at h
  rw [show ((y * 4294967296 : Nat) : Int) = (y : Int) * 4294967296 from by omega] at h
  rw [h]
  congr 1
  omega

theorem shr_any {w : World} {A : Option Addr} {c1 n : Nat} {ds : List Nat} (h : NR w A c1 ds) (hs : dl (V ds) ≤ 17592186044416) (hn : n ≤ 4611686018427387904) (hlt : n / 32 < dl (V ds)) :
    Calls Try.prog 147 #[.slice A ds.length c1, .int .i64 n] w (RetN w (V ds / 2 ^ n)) := by
  have ht := trim_nr h
  have hn' := h.trim
  clear h
  unfold dl at hs hlt
  generalize V ds = a at *
  have HV := Lib.hid hn'.valid
  have HR := Lib.hid hn'.rd
  have hle := hn'.le
  have hcap := hn'.cap
  have hval : val B32 (shrD (n % 32) ((digs B32 a).drop (n / 32))) = a / 2 ^ n := by
    have hp : B32 ^ (n / 32) = 2 ^ (32 * (n / 32)) := by rw [Nat.pow_mul]; rfl
    have h1 := shrD_val (s := n % 32) (by omega) (valid_drop HV.out (n / 32))
    have h2 := val_drop_div B32_two HV.out (n / 32)
    rw [val_digs B32_two, hp] at h2
    show val 4294967296 _ = _
    rw [h1]
    show val B32 _ / _ = _
    rw [h2, Nat.div_div_eq_div_mul, ← Nat.pow_add, Nat.div_add_mod]
  have HVAL := Lib.hid hval
  clear hn' hval
  generalize digs B32 a = da at *
  have hcut : ¬ (c1 = n / 32) := by omega
  obtain ⟨b1, o1, rfl, hb1, _⟩ := HR.out.at_ (j := n / 32) hlt
  have HC : Hid (∀ k (hk : k < da.length - n / 32), w.cell? ⟨b1, o1 + n / 32 + k, none⟩ = some (.int .u32 (da[n / 32 + k] : Nat))) := by
    intro k hk
    obtain ⟨b, o, hA, _, hc⟩ := HR.out (n / 32 + k) (by omega)
    injection hA with hA
    injection hA with e1 e2
    subst e1 e2
    rw [Nat.add_assoc]
    exact hc
  have HG : Hid (∀ k (hk : k < (da.drop (n / 32)).length), (da.drop (n / 32))[k] = da[n / 32 + k]'(by simp at hk; omega)) := fun k hk => by simp
  have hT : (da.drop (n / 32)).length = da.length - n / 32 := by simp
  have HT := Lib.hid hT
  have HVd := Lib.hid (valid_drop HV.out (n / 32))
  clear hT
  go_enter Try.func147, Try.ntmps147
  go_wp2_with fail
  refine ht.mono ?_
  rintro e w' ⟨rfl, rfl⟩
  clear ht
  go_wp2_with (at_make; refine wpList_mkrow rfl _ _ _ rfl _ _ _ Try.underlying23 info_u32 (by omega) _ _ _ (da.length - n / 32) rfl rfl (by omega) (by omega) ?_)
  intro g w1 hg hrow hx
  have hinv : ShrInv w w1 g 0 (n % 32) (da.drop (n / 32)) := ⟨_, hrow, by simp, by simp, hx⟩
  clear hrow hx
  go_wp2_with fail
  go_loopw [33] (fun i wr => ∃ k : Nat, k ≤ da.length - n / 32 ∧ i = .int .i64 k ∧ ShrInv w wr g k (n % 32) (da.drop (n / 32))) (fun i _ => (da.length - n / 32) - (intOf i).toNat)
  case atStart => exact ⟨0, Nat.zero_le _, rfl, hinv⟩
  case round =>
    clear hinv
    obtain ⟨k, hk, rfl, hinv⟩ := hrel
    by_cases hlt2 : k < da.length - n / 32
    · have hinv0 := hinv
      obtain ⟨zs, hz, hl, he, hext⟩ := hinv
      have hcx : wr.cell? ⟨b1, o1 + n / 32 + k, none⟩ = some (.int .u32 (da[n / 32 + k] : Nat)) := hext.cell (HC.out k hlt2)
      have hx : da[n / 32 + k] < 4294967296 := valid_get HV.out _ (by omega)
      obtain ⟨z0, hcell⟩ := hz.some_ (i := k) (by rw [hl, HT.out]; exact hlt2)
      have hfr := hz.frozen k
      have HI := Lib.hid hinv0
      have hkd : k < (da.drop (n / 32)).length := by rw [HT.out]; exact hlt2
      have HX : Hid ((da.drop (n / 32))[k] = da[n / 32 + k]) := HG.out k hkd
      clear hz hl he hinv0
      by_cases hlast : k + 1 < da.length - n / 32
      · have hcy : wr.cell? ⟨b1, o1 + n / 32 + (k + 1), none⟩ = some (.int .u32 (da[n / 32 + (k + 1)] : Nat)) := hext.cell (HC.out (k + 1) hlast)
        have hy : da[n / 32 + (k + 1)] < 4294967296 := valid_get HV.out _ (by omega)
        have HY : Hid ((da.drop (n / 32))[k + 1]?.getD 0 = da[n / 32 + (k + 1)]) := by
          show _ = _
          have hkd2 : k + 1 < (da.drop (n / 32)).length := by rw [HT.out]; exact hlast
          rw [List.getElem?_eq_getElem hkd2, HG.out (k + 1) hkd2]; rfl
        generalize da[n / 32 + k] = x at *
        generalize da[n / 32 + (k + 1)] = y at *
        go_wp2_with fail
        go_roundw
        case rel =>
          refine ⟨k + 1, by omega, by go_num, HI.out.step hkd hg ?_⟩
          rw [HX.out, HY.out, or_digits hx hy]
          simp
        case measure => simp [intOf]; omega
      · have HY : Hid ((da.drop (n / 32))[k + 1]?.getD 0 = 0) := by
          show _ = _
          rw [List.getElem?_eq_none (by rw [HT.out]; omega)]; rfl
        generalize da[n / 32 + k] = x at *
        go_wp2_with fail
        go_roundw
        case rel =>
          refine ⟨k + 1, by omega, by go_num, HI.out.step hkd hg ?_⟩
          rw [HX.out, HY.out]
          simp
        case measure => simp [intOf]; omega
    · obtain rfl : k = da.length - n / 32 := by omega
      obtain ⟨zs, hz, hl, he, hext⟩ := hinv
      rw [← HT.out, ← hl, List.take_length, hl, List.take_of_length_le (by rw [shrD_length]; exact Nat.le_refl _)] at he
      have hv : Valid B32 zs := by rw [he]; exact shrD_valid _ _
      have HE : Hid (V zs = a / 2 ^ n) := by show val B32 zs = _; rw [he]; exact HVAL.out
      have hnr : NR wr (some ⟨g, 0, none⟩) zs.length zs :=
        ⟨by have := hz.rd zs.length; rwa [List.take_length] at this, hv, Nat.le_refl _, by rw [hl, HT.out]; omega⟩
      have ht := trim_nr hnr
      have hown := (Own.of_row' (B := w.heap.size) (n := zs.length) (ds := digs B32 (a / 2 ^ n)) hz (by omega) (by rw [hl, HT.out]; unfold maxLen; omega) rfl
        (by rw [← HE.out, ← trim_V hv]; exact trimL_take _))
      rw [HE.out] at ht
      rw [hl, HT.out] at ht hown
      have HTR := Lib.hid ht
      clear hz he hl hv hnr ht
      go_wp2_with fail
      refine HTR.out.mono ?_
      rintro e w' ⟨rfl, rfl⟩
      go_wp2_with fail
      go_ret
      exact ⟨_, _, rfl, hown, hext⟩

theorem shr_far {w : World} {A : Option Addr} {c1 n : Nat} {ds : List Nat} (h : NR w A c1 ds) (hn : n ≤ 4611686018427387904) (hge : dl (V ds) ≤ n / 32) :
    Calls Try.prog 147 #[.slice A ds.length c1, .int .i64 n] w fun e w' => e = .returned (.slice none 0 0) ∧ w = w' := by
  have ht := trim_nr h
  clear h
  unfold dl at hge
  generalize digs B32 (V ds) = da at *
  go_enter Try.func147, Try.ntmps147
  go_wp2_with fail
  refine ht.mono ?_
  rintro e w' ⟨rfl, rfl⟩
  go_wp2_with fail
  go_ret
  exact ⟨rfl, rfl⟩
end Go.Proofs.Ytfnmbhjifdfibaa
