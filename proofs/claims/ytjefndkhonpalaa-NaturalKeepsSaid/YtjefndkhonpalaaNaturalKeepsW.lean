/- The walk of NaturalKeeps. -/
import Derived.Test.YtjefndkhonpalaaNatK
namespace Go.Proofs.Ytjefndkhonpalaa
open Go.RowKit

theorem nv_nil (w : World) : NV w none 0 0 0 := ⟨[], rfl, rfl, Rd.nil _ _ _, valid_nil _, Nat.le_refl _, by omega⟩

set_option maxRecDepth 100000 in
set_option maxHeartbeats 2000000 in
theorem naturalKeeps_walk {w : World} {A1 A2 : Option Addr} {c1 c2 n : Nat} {da db : List Nat} (h1 : NR w A1 c1 da) (z1 : A1 = none → c1 = 0) (h2 : NR w A2 c2 db) (z2 : A2 = none → c2 = 0) (hn : n < 256) :
    Calls Try.prog 11 #[.slice A1 da.length c1, .slice A2 db.length c2, .int .u8 n] w fun e w' => e = .returned (.bool true) ∧ Ext w w' := by
  have l1 := h1.le
  have l2 := h2.le
  have p1 := h1.cap
  have p2 := h2.cap
  have hx := Ext.refl w
  by_cases hf : (decide (da.length ≤ 20) && decide (db.length ≤ 20)) = true
  · have k1 : da.length ≤ 20 ∧ db.length ≤ 20 := by simp at hf; omega
    have HR1 := Lib.hid h1.rd
    have HR2 := Lib.hid h2.rd
    have n1 : NV w A1 c1 da.length (V da) := h1.nv
    have n2 : NV w A2 c2 db.length (V db) := h2.nv
    have s1 := n1.dl
    have s2 := n2.dl
    clear h1 h2
    generalize V da = a at *
    generalize V db = b at *
    have HF := Lib.hid hf
    clear hf
    have HO : Hid (∀ w, Calls Try.prog 28 #[.int .u64 1] w (RetN w 1)) := fun w => of_any 1 (by omega)
    have d1 : dl 1 ≤ 1 := dl_le (by unfold B32; omega)
    have HS : Hid (∀ w, NV w A1 c1 da.length a → NV w A2 c2 db.length b → Calls Try.prog 16 #[.slice A1 da.length c1, .slice A2 db.length c2] w fun e w' => ∃ A c L ok, e = .returned (.tuple #[.slice A L c, .bool ok]) ∧ OA w' w.heap.size A c L ∧ Ext w w') := fun w h1 h2 => sub_o h1 h2 (by omega)
    have HD : Hid (∀ w, NV w A1 c1 da.length a → Calls Try.prog 29 #[.slice A1 da.length c1, .int .u32 1] w fun e w' => ∃ A c L r, e = .returned (.tuple #[.slice A L c, .int .u32 r, .bool true]) ∧ OA w' w.heap.size A c L ∧ Ext w w') := fun w h1 => divSmall_o (d := 1) h1 (by omega) (by omega) (by omega)
    have HN : Hid (∀ w, NV w A1 c1 da.length a → Calls Try.prog 21 #[.slice A1 da.length c1] w (RetO w)) := fun w h1 => (normal_v h1 (by omega)).mono fun _ _ h => h.o
    have HA0 : Hid (∀ w, NV w A1 c1 da.length a → Calls Try.prog 19 #[.slice A1 da.length c1, .slice none 0 0] w (RetO w)) := fun w h1 => (add_v h1 (nv_nil w) (by omega) (by have : dl 0 = 0 := rfl; omega)).mono fun _ _ h => h.o
    have HM1 : Hid (∀ w A c, NV w A1 c1 da.length a → NO w 0 A c 1 → Calls Try.prog 24 #[.slice A1 da.length c1, .slice A (digs B32 1).length c] w (RetO w)) := fun w A c h1 h2 => (mul_v h1 h2.nv (by omega) (by omega)).mono fun _ _ h => h.o
    have HMA : Hid (∀ w, NV w A1 c1 da.length a → Calls Try.prog 26 #[.slice A1 da.length c1, .int .u32 1, .int .u32 0] w (RetO w)) := fun w h1 => (mulAdd_v (m := 1) (k := 0) h1 (by omega) (by omega) (by omega)).mono fun _ _ h => h.o
    have HSL : Hid (∀ w, NV w A1 c1 da.length a → Calls Try.prog 31 #[.slice A1 da.length c1, .int .i64 n] w (RetO w)) := fun w h1 => (shl_v (m := n) h1 (by omega) (by omega) (by omega)).mono fun _ _ h => h.o
    have HSR : Hid (∀ w, NV w A1 c1 da.length a → Calls Try.prog 33 #[.slice A1 da.length c1, .int .i64 0] w (RetO w)) := fun w h1 => (shr_v (m := 0) h1 (by omega) (by omega) (by omega)).mono fun _ _ h => h.o
    have HA : Hid (∀ w, NV w A1 c1 da.length a → NV w A2 c2 db.length b → Calls Try.prog 19 #[.slice A1 da.length c1, .slice A2 db.length c2] w (RetO w)) := fun w h1 h2 => (add_v h1 h2 (by omega) (by omega)).mono fun _ _ h => h.o
    have HM : Hid (∀ w, NV w A1 c1 da.length a → NV w A2 c2 db.length b → Calls Try.prog 24 #[.slice A1 da.length c1, .slice A2 db.length c2] w (RetO w)) := fun w h1 h2 => (mul_v h1 h2 (by omega) (by omega)).mono fun _ _ h => h.o
    go_enter Try.func11, Try.ntmps11
    go_wp2_with fail
    refine (awake1 _).mono ?_
    rintro e w1 ⟨rfl, x1⟩
    have hx := hx.trans x1
    have n1 := n1.ext x1
    have n2 := n2.ext x1
    go_wp2_with fail
    refine (few2 (by omega) (by omega)).mono ?_
    rintro e w2 ⟨rfl, x2⟩
    have hx := hx.trans x2
    have n1 := n1.ext x2
    have n2 := n2.ext x2
    rw [HF.out]
    have e1 : (#[] : Array Value) = (nums .u32 []).toArray := rfl
    have hs2 := hx.size
    go_wp2_with (at_builtin; refine wpList_appN rfl _ _ _ rfl w2.heap.size 39 .u32 4 Try.underlying22 info_u32 (by omega) (some ⟨w2.heap.size, 0, none⟩) 0 0 [] rfl rfl (Own.of_row' (Row.new w2 .u32 39 []) (Nat.le_refl _) (by simp) rfl rfl) A1 da.length c1 da rfl rfl (HR1.out.below (hx.trans (Ext.alloc _ _))) z1 ?h3 ?h4 ?h5)
    case h3 => omega
    case h4 => simp
    case h5 =>
      intro Ax cx w3 ox bx
      have x3 : Ext w2 w3 := Below.trans (Ext.alloc w2 _) bx
      have hx := hx.trans x3
      have n1 := n1.ext x3
      have n2 := n2.ext x3
      have RX := Lib.hid (Own.rd ox)
      clear ox bx x3 hs2
      go_wp2_with (at_builtin; refine wpList_appN rfl _ _ _ rfl w3.heap.size 39 .u32 4 Try.underlying22 info_u32 (by omega) (some ⟨w3.heap.size, 0, none⟩) 0 0 [] rfl rfl (Own.of_row' (Row.new w3 .u32 39 []) (Nat.le_refl _) (by simp) rfl rfl) A2 db.length c2 db rfl rfl (HR2.out.below (hx.trans (Ext.alloc _ _))) z2 ?h3 ?h4 ?h5)
      case h3 => omega
      case h4 => simp
      case h5 =>
        intro Ay cy w4 oy by_
        have x4 : Ext w3 w4 := Below.trans (Ext.alloc w3 _) by_
        have hx := hx.trans x4
        have n1 := n1.ext x4
        have n2 := n2.ext x4
        have RX : Hid (Rd w4 .u32 Ax da) := RX.out.below x4
        have RY := Lib.hid (Own.rd oy)
        have RA : Hid (Rd w4 .u32 A1 da) := HR1.out.below hx
        have RB : Hid (Rd w4 .u32 A2 db) := HR2.out.below hx
        have hx4 := hx
        have hx := Ext.refl w4
        clear oy by_ x4 HR1 HR2 e1
        go_wp2_with fail
        refine (HS.out _ n1 n2).mono ?_
        rintro e w5 ⟨Ar1, cr1, Lr1, rr1, rfl, r1, x5⟩
        have hx := hx.trans x5
        have n1 := n1.ext x5
        have n2 := n2.ext x5
        go_wp2_with fail
        refine (HD.out _ n1).mono ?_
        rintro e w6 ⟨Ar2, cr2, Lr2, rr2, rfl, r2, x6⟩
        have hx := hx.trans x6
        have n1 := n1.ext x6
        have n2 := n2.ext x6
        have r1 := r1.ext x6
        go_wp2_with fail
        refine (HN.out _ n1).mono ?_
        rintro e w7 ⟨Ar3, cr3, Lr3, rfl, r3, x7⟩
        have hx := hx.trans x7
        have n1 := n1.ext x7
        have n2 := n2.ext x7
        have r1 := r1.ext x7
        have r2 := r2.ext x7
        go_wp2_with fail
        refine (HA0.out _ n1).mono ?_
        rintro e w8 ⟨Ar4, cr4, Lr4, rfl, r4, x8⟩
        have hx := hx.trans x8
        have n1 := n1.ext x8
        have n2 := n2.ext x8
        have r1 := r1.ext x8
        have r2 := r2.ext x8
        have r3 := r3.ext x8
        go_wp2_with fail
        refine (HO.out _).mono ?_
        rintro e w9 ⟨As1, cs1, rfl, s1, x9⟩
        have hx := hx.trans x9
        have n1 := n1.ext x9
        have n2 := n2.ext x9
        have r1 := r1.ext x9
        have r2 := r2.ext x9
        have r3 := r3.ext x9
        have r4 := r4.ext x9
        go_wp2_with fail
        refine (HM1.out _ _ _ n1 (Own.mono s1 (Nat.zero_le _))).mono ?_
        rintro e w10 ⟨Ar5, cr5, Lr5, rfl, r5, x10⟩
        have hx := hx.trans x10
        have n1 := n1.ext x10
        have n2 := n2.ext x10
        have r1 := r1.ext x10
        have r2 := r2.ext x10
        have r3 := r3.ext x10
        have r4 := r4.ext x10
        have s1 := s1.ext x10
        go_wp2_with fail
        refine (HMA.out _ n1).mono ?_
        rintro e w11 ⟨Ar6, cr6, Lr6, rfl, r6, x11⟩
        have hx := hx.trans x11
        have n1 := n1.ext x11
        have n2 := n2.ext x11
        have r1 := r1.ext x11
        have r2 := r2.ext x11
        have r3 := r3.ext x11
        have r4 := r4.ext x11
        have s1 := s1.ext x11
        have r5 := r5.ext x11
        go_wp2_with fail
        refine (HSL.out _ n1).mono ?_
        rintro e w12 ⟨Ar7, cr7, Lr7, rfl, r7, x12⟩
        have hx := hx.trans x12
        have n1 := n1.ext x12
        have n2 := n2.ext x12
        have r1 := r1.ext x12
        have r2 := r2.ext x12
        have r3 := r3.ext x12
        have r4 := r4.ext x12
        have s1 := s1.ext x12
        have r5 := r5.ext x12
        have r6 := r6.ext x12
        go_wp2_with fail
        refine (HSR.out _ n1).mono ?_
        rintro e w13 ⟨Ar8, cr8, Lr8, rfl, r8, x13⟩
        have hx := hx.trans x13
        have n1 := n1.ext x13
        have n2 := n2.ext x13
        have r1 := r1.ext x13
        have r2 := r2.ext x13
        have r3 := r3.ext x13
        have r4 := r4.ext x13
        have s1 := s1.ext x13
        have r5 := r5.ext x13
        have r6 := r6.ext x13
        have r7 := r7.ext x13
        go_wp2_with fail
        refine (HA.out _ n1 n2).mono ?_
        rintro e w14 ⟨Ar9, cr9, Lr9, rfl, r9, x14⟩
        have hx := hx.trans x14
        have n1 := n1.ext x14
        have n2 := n2.ext x14
        have r1 := r1.ext x14
        have r2 := r2.ext x14
        have r3 := r3.ext x14
        have r4 := r4.ext x14
        have s1 := s1.ext x14
        have r5 := r5.ext x14
        have r6 := r6.ext x14
        have r7 := r7.ext x14
        have r8 := r8.ext x14
        go_wp2_with fail
        refine (HM.out _ n1 n2).mono ?_
        rintro e w15 ⟨Ar10, cr10, Lr10, rfl, r10, x15⟩
        have hx := hx.trans x15
        have n1 := n1.ext x15
        have n2 := n2.ext x15
        have r1 := r1.ext x15
        have r2 := r2.ext x15
        have r3 := r3.ext x15
        have r4 := r4.ext x15
        have s1 := s1.ext x15
        have r5 := r5.ext x15
        have r6 := r6.ext x15
        have r7 := r7.ext x15
        have r8 := r8.ext x15
        have r9 := r9.ext x15
        have y5 := x5.size
        have y6 := x6.size
        have y7 := x7.size
        have y8 := x8.size
        have y9 := x9.size
        have y10 := x10.size
        have y11 := x11.size
        have y12 := x12.size
        have y13 := x13.size
        have y14 := x14.size
        have y15 := x15.size
        obtain ⟨rs, hrs⟩ : ∃ rs : List (Option Addr × Nat × Nat), rs = [(Ar3, Lr3, cr3), (Ar4, Lr4, cr4), (Ar5, Lr5, cr5), (Ar6, Lr6, cr6), (Ar7, Lr7, cr7), (Ar8, Lr8, cr8), (Ar1, Lr1, cr1), (Ar2, Lr2, cr2), (Ar9, Lr9, cr9), (Ar10, Lr10, cr10)] := ⟨_, rfl⟩
        have hinv : KInv w4 (w15.alloc (.cells #[.slice Ar3 Lr3 cr3, .slice Ar4 Lr4 cr4, .slice Ar5 Lr5 cr5, .slice Ar6 Lr6 cr6, .slice Ar7 Lr7 cr7, .slice Ar8 Lr8 cr8, .slice Ar1 Lr1 cr1, .slice Ar2 Lr2 cr2, .slice Ar9 Lr9 cr9, .slice Ar10 Lr10 cr10] 28)) w15.heap.size rs := by
          have xa : Ext w15 (w15.alloc (.cells #[.slice Ar3 Lr3 cr3, .slice Ar4 Lr4 cr4, .slice Ar5 Lr5 cr5, .slice Ar6 Lr6 cr6, .slice Ar7 Lr7 cr7, .slice Ar8 Lr8 cr8, .slice Ar1 Lr1 cr1, .slice Ar2 Lr2 cr2, .slice Ar9 Lr9 cr9, .slice Ar10 Lr10 cr10] 28)) := Ext.alloc _ _
          rw [hrs]
          refine ⟨hx.trans xa, heap_alloc_new w15 _, ?_, ?_⟩
          · simp only [List.forall_mem_cons]
            exact ⟨(r3.ext xa).mono (by omega), (r4.ext xa).mono (by omega), (r5.ext xa).mono (by omega), (r6.ext xa).mono (by omega), (r7.ext xa).mono (by omega), (r8.ext xa).mono (by omega), (r1.ext xa).mono (by omega), (r2.ext xa).mono (by omega), (r9.ext xa).mono (by omega), (r10.ext xa).mono (by omega), fun _ h => by cases h⟩
          · simp only [List.forall_mem_cons]
            exact ⟨r3.ne, r4.ne, r5.ne, r6.ne, r7.ne, r8.ne, r1.ne, r2.ne, r9.ne, r10.ne, fun _ h => by cases h⟩
        have hlen : rs.length = 10 := by rw [hrs]; rfl
        have HI := Lib.hid hinv
        have HLEN := Lib.hid hlen
        clear hrs hinv hlen hx r1 r2 r3 r4 r5 r6 r7 r8 r9 r10 s1 n1 n2 HS HD HN HA0 HO HM1 HMA HSL HSR HA HM y5 y6 y7 y8 y9 y10 y11 y12 y13 y14 y15 x5 x6 x7 x8 x9 x10 x11 x12 x13 x14 x15
        go_wp2_with fail
        go_loopw [15] (fun iv wr => ∃ i : Nat, i ≤ 10 ∧ iv = .int .i64 i ∧ KInv w4 wr w15.heap.size rs) (fun iv _ => 10 - (intOf iv).toNat)
        case atStart => exact ⟨0, Nat.zero_le _, rfl, HI.out⟩
        case round =>
          clear HI
          obtain ⟨i, hi, rfl, hinv⟩ := hrel
          by_cases hlt : i < 10
          · obtain ⟨r, hr⟩ : ∃ r, rs[i]? = some r := ⟨_, List.getElem?_eq_getElem (by rw [HLEN.out]; exact hlt)⟩
            have hmem : r ∈ rs := List.mem_of_getElem? hr
            have hLb := (hinv.own r hmem).le
            have HC : Hid (∀ wr, KInv w4 wr w15.heap.size rs → wr.cell? ⟨w15.heap.size, i, none⟩ = some (.slice r.1 r.2.1 r.2.2) ∧ w15.heap.size < wr.heap.size) := fun wr h => h.cell hr
            have HST : Hid (∀ wr k, KInv w4 wr w15.heap.size rs → k < r.2.1 → ∃ g x, r.1 = some ⟨g, 0, none⟩ ∧ g < wr.heap.size ∧ x < 4294967296 ∧ wr.cell? ⟨g, k, none⟩ = some (.int .u32 (x : Nat)) ∧ wr.frozen? ⟨g, k, none⟩ = false ∧
              ∀ v : Nat, v < 4294967296 → KInv w4 (wr.setCell ⟨g, k, none⟩ (.int .u32 (v : Int))) w15.heap.size rs) := fun wr k h hk => h.step hmem hk
            have HI := Lib.hid hinv
            clear hinv hmem hr
            obtain ⟨A, L, c⟩ := r
            simp only at HC HST hLb
            go_wp2_with fail
            obtain ⟨wo, rfl⟩ : ∃ wo : World, wo = wr := ⟨_, rfl⟩
            go_loopw [16] (fun kv wr => ∃ k : Nat, k ≤ L ∧ kv = .int .i64 k ∧ KInv w4 wr w15.heap.size rs) (fun kv _ => L - (intOf kv).toNat)
            case atStart => exact ⟨0, Nat.zero_le _, rfl, HI.out⟩
            case round =>
              clear HI
              obtain ⟨k, hk, rfl, hinv⟩ := hrel
              obtain ⟨hcl, hgl⟩ := HC.out wr hinv
              by_cases hkl : k < L
              · obtain ⟨g, x, rfl, hg, hxb, hcell, hfr, hstep⟩ := HST.out wr k hinv hkl
                have HS : Hid (∀ e : Int, e = (((x + 1) % 4294967296 : Nat) : Int) → KInv w4 (wr.setCell ⟨g, k, none⟩ (.int .u32 e)) w15.heap.size rs) := fun e he => by subst he; exact hstep _ (Nat.mod_lt _ (by omega))
                clear hstep hinv
                go_wp2_with fail
                go_roundw
                case rel => exact ⟨k + 1, by omega, by go_num, HS.out _ (by go_num)⟩
                case measure => simp [intOf]; omega
              · have hkk : k = L := by omega
                have HI := Lib.hid hinv
                clear hinv
                go_wp2_with fail
                go_roundw
                case rel => exact ⟨i + 1, by omega, by go_num, HI.out⟩
                case measure => simp [intOf]; omega
          · obtain rfl : i = 10 := by omega
            have hx := hinv.ext
            have HT1 : Hid (∀ w', Ext wr w' → Calls Try.prog 36 #[.slice A1 da.length c1, .slice Ax da.length cx] w' fun e w'' => e = .returned (.bool true) ∧ Ext w' w'') := fun w' h => same_any (RA.out.below (hx.trans h)) (RX.out.below (hx.trans h)) (by omega)
            have HT2 : Hid (∀ w', Ext wr w' → Calls Try.prog 36 #[.slice A2 db.length c2, .slice Ay db.length cy] w' fun e w'' => e = .returned (.bool true) ∧ Ext w' w'') := fun w' h => same_any (RB.out.below (hx.trans h)) (RY.out.below (hx.trans h)) (by omega)
            have hxx := hx4.trans hx
            clear hinv RA RB RX RY hx
            go_wp2_with fail
            refine (HT1.out _ (Ext.refl _)).mono ?_
            rintro e w16 ⟨rfl, x16⟩
            go_wp2_with fail
            refine (HT2.out _ x16).mono ?_
            rintro e w17 ⟨rfl, x17⟩
            go_wp2_with fail
            go_ret
            exact ⟨rfl, (hxx.trans x16).trans x17⟩
  · have hf' : (decide (da.length ≤ 20) && decide (db.length ≤ 20)) = false := by simpa using hf
    have HF := Lib.hid hf'
    clear hf hf'
    go_enter Try.func11, Try.ntmps11
    go_wp2_with fail
    refine (awake1 _).mono ?_
    rintro e w1 ⟨rfl, x1⟩
    have hx := hx.trans x1
    go_wp2_with fail
    refine (few2 (by omega) (by omega)).mono ?_
    rintro e w2 ⟨rfl, x2⟩
    have hx := hx.trans x2
    rw [HF.out]
    go_wp2_with fail
    refine (awake1 _).mono ?_
    rintro e w3 ⟨rfl, x3⟩
    have hx := hx.trans x3
    go_wp2_with fail
    go_ret
    exact ⟨rfl, hx⟩
end Go.Proofs.Ytjefndkhonpalaa
