/- The reference: the decimal text of a fraction. -/
import Derived.Test.YtfnmbhjifdfibaaDecP
import Derived.Test.YtfnmbhjifdfibaaLaw5d
import Derived.Test.YtfnmbhjifdfibaaRefI
import Derived.Deep.RegionHeldLaw
import Derived.Deep.LoopGhost
import Derived.Deep.QuietTactic
import Derived.BigQuiet
namespace Go.Proofs.Ytfnmbhjifdfibaa
open Go.RowKit
theorem dl_bl (n : Nat) : dl n ≤ bl n := dl_le (Nat.lt_of_lt_of_le (lt_pow_len (B := 2) (by omega) n) (Nat.pow_le_pow_left (by unfold B32; omega) _))
theorem BK.set2z {w : World} {b : Nat} {T : TypeId} {u0 u1 v0 v1 : Value} (h : BK w b T #[u0, u1]) : BK ((w.setCell ⟨b, 0, none⟩ v0).setCell ⟨b, 1, none⟩ v1) b T #[v0, v1] :=
  (BK.set (i := 1) (u := v1) (vs' := #[v0, v1]) (BK.set (i := 0) (u := v0) (vs' := #[v0, u1]) h rfl) rfl)
theorem BK.far2z {w : World} {b b' : Nat} {T : TypeId} {vs : Array Value} {v0 v1 : Value} (hne : b ≠ b') (h : BK w b T vs) : BK ((w.setCell ⟨b', 0, none⟩ v0).setCell ⟨b', 1, none⟩ v1) b T vs := (h.far hne 0 v0).far hne 1 v1
/-- An integer of the reference in a box laid behind w. -/
def PutZK (w w' : World) (x : Int) (s : Value) : Prop := ∃ b g A c L, s = .pointer (some ⟨b, 0, none⟩) ∧ w.heap.size ≤ b ∧ BK w' b 36 #[.int .i64 g, .slice A L c] ∧ RZ w' g A c L x ∧ Ext w w'
theorem PutZK.mk {w w' : World} {b : Nat} {x g : Int} {A : Option Addr} {c L : Nat} (hb : w.heap.size ≤ b) (k : BK w' b 36 #[.int .i64 g, .slice A L c]) (h : RZ w' g A c L x) (hx : Ext w w') : PutZK w w' x (.pointer (some ⟨b, 0, none⟩)) := ⟨b, g, A, c, L, rfl, hb, k, h, hx⟩
/-- Two integers of the reference in boxes laid behind w. -/
def PutZ2 (w w' : World) (x y : Int) (s t : Value) : Prop := ∃ b b' g A c L g' A' c' L', s = .pointer (some ⟨b, 0, none⟩) ∧ t = .pointer (some ⟨b', 0, none⟩) ∧ w.heap.size ≤ b ∧ w.heap.size ≤ b' ∧ b ≠ b' ∧ BK w' b 36 #[.int .i64 g, .slice A L c] ∧ BK w' b' 36 #[.int .i64 g', .slice A' L' c'] ∧ RZ w' g A c L x ∧ RZ w' g' A' c' L' y ∧ Ext w w'
theorem PutZ2.mk {w w' : World} {b b' : Nat} {x y g g' : Int} {A A' : Option Addr} {c L c' L' : Nat} (hb : w.heap.size ≤ b) (hb' : w.heap.size ≤ b') (hne : b ≠ b') (k : BK w' b 36 #[.int .i64 g, .slice A L c]) (k' : BK w' b' 36 #[.int .i64 g', .slice A' L' c']) (h : RZ w' g A c L x) (h' : RZ w' g' A' c' L' y) (hx : Ext w w') : PutZ2 w w' x y (.pointer (some ⟨b, 0, none⟩)) (.pointer (some ⟨b', 0, none⟩)) := ⟨b, b', g, A, c, L, g', A', c', L', rfl, rfl, hb, hb', hne, k, k', h, h', hx⟩
theorem qr_mk {w : World} {g h : Int} {A B : Option Addr} {c d L M K : Nat} {x : Int} {y : Nat} (h1 : RZ w g A c L x) (h2 : RZ w h B d M (y : Int)) (hy : 0 < y) (b1 : bl x.natAbs ≤ K) (b2 : bl y ≤ K) : QR w g A c L h B d M K (mkRat x y) :=
  ⟨⟨x, y, h1, h2, hy, rfl, b1, b2⟩⟩
theorem qcmp_e {w : World} {g1 h1 g2 h2 k : Int} {A1 B1 A2 B2 : Option Addr} {c1 d1 L1 M1 K1 c2 d2 L2 M2 K2 : Nat} {q1 q2 : Rat} (z1 : QR w g1 A1 c1 L1 h1 B1 d1 M1 K1 q1) (z2 : QR w g2 A2 c2 L2 h2 B2 d2 M2 K2 q2) (hs1 : K1 ≤ 1000000000) (hs2 : K2 ≤ 1000000000) (e : cmpQ q1 q2 = k) :
    Calls Try.prog 48 #[Value.agg #[.int .i64 g1, .slice A1 L1 c1, .int .i64 h1, .slice B1 M1 d1], Value.agg #[.int .i64 g2, .slice A2 L2 c2, .int .i64 h2, .slice B2 M2 d2]] w fun e w' => e = .returned (.int .i64 k) ∧ Ext w w' := by rw [← e]; exact qcmp_r z1 z2 hs1 hs2
theorem bl_one1 : bl 1 ≤ 1 := bl_of_lt (by omega)
theorem bl_200 {d : Nat} (h : d ≤ 200) : bl d ≤ 8 := bl_of_lt (by omega)
theorem bl_nat (n : Nat) : bl ((n : Int)).natAbs = bl n := by rw [Int.natAbs_natCast]
theorem blz_add1 (x : Int) : bl (x + 1).natAbs ≤ bl x.natAbs + 2 := by
  have h1 : bl (x + 1).natAbs ≤ bl (x.natAbs + 1) := bl_mono (by omega)
  have h2 := bl_add x.natAbs 1
  have h3 := bl_one1
  omega
theorem blz_mul (x y : Int) : bl (x * y).natAbs ≤ bl x.natAbs + bl y.natAbs := by rw [Int.natAbs_mul]; exact bl_mul _ _
theorem blz_div (x : Int) (y : Nat) : bl (x / (y : Int)).natAbs ≤ bl x.natAbs := bl_mono (Int.natAbs_ediv_le_natAbs _ _)
theorem toRZ {P : Program} {f : Nat} {args : Array Value} {w : World} {x y : Int} (e : x = y) (h : Calls P f args w (RetRZ w x)) : Calls P f args w (RetRZ w y) := by rw [← e]; exact h
set_option maxHeartbeats 4000000 in
set_option maxRecDepth 100000 in
theorem rpow_rz {w : World} {g1 x : Int} {A1 : Option Addr} {c1 L1 n : Nat} (h1 : RZ w g1 A1 c1 L1 x) (hx1 : bl x.natAbs ≤ 100000) (hb : ∀ k, k ≤ n → bl (x ^ k).natAbs ≤ 100000) (hn : n ≤ 1000000) :
    Calls Try.prog 66 #[.agg #[.int .i64 g1, .slice A1 L1 c1], .int .i64 n] w (RetRZ w (x ^ n)) := by
  have H1 := Lib.hid h1
  have HBD := Lib.hid hb
  clear h1 hb
  go_enter Try.func66, Try.ntmps66
  go_wp2_with fail
  obtain ⟨w0, hw0⟩ : ∃ z : World, z = ((w.alloc (.cells #[.int .i64 g1, .slice A1 L1 c1] 36)).alloc (.cells #[.int .i64 0, .slice none 0 0] 36)) := ⟨_, rfl⟩
  rw [← hw0]
  have bxa : BK w0 (w.heap.size) 36 #[.int .i64 g1, .slice A1 L1 c1] := by rw [hw0]; have h5 := (BK.ext (BK.new w #[.int .i64 g1, .slice A1 L1 c1] 36) (Ext.alloc _ (.cells #[.int .i64 0, .slice none 0 0] 36))); simpa only [World.size_alloc] using h5
  have bxr : BK w0 (w.heap.size + 1) 36 #[.int .i64 0, .slice none 0 0] := by rw [hw0]; have h5 := (BK.new (w.alloc (.cells #[.int .i64 g1, .slice A1 L1 c1] 36)) #[.int .i64 0, .slice none 0 0] 36); simpa only [World.size_alloc] using h5
  have hszw0 : w0.heap.size = w.heap.size + 1 + 1 := by rw [hw0]; simp only [World.size_alloc]
  have xw0 : Ext w w0 := by rw [hw0]; exact ((Ext.alloc _ _).trans (Ext.alloc _ _))
  clear hw0
  refine (small_rz (n := 1) (by omega)).mono ?_
  rintro e w1 ⟨go, Ao, co, Lo, rfl, o, x1⟩
  have szw1 : w0.heap.size ≤ w1.heap.size := x1.size
  replace bxa := bxa.ext x1
  replace bxr := bxr.ext x1
  have HBX := Lib.hid (And.intro bxa bxr)
  have HO := Lib.hid o
  have xw1 : Ext w w1 := (by repeat' (first | with_reducible exact Ext.refl _ | with_reducible assumption | with_reducible apply Ext.alloc_r | with_reducible apply Ext.drew_r | with_reducible apply Ext.drewN_r | with_reducible refine Ext.trans ?_ ‹Ext _ _›))
  clear o
  have ka_0 := bxa.c 0 (.int .i64 g1) rfl
  have ka_1 := bxa.c 1 (.slice A1 L1 c1) rfl
  have kr_0 := bxr.c 0 (.int .i64 0) rfl
  have kr_1 := bxr.c 1 (.slice none 0 0) rfl
  have t1a_0 := fun (o0 : Obj) => ((Ext.alloc w1 o0).cell (bxa.c 0 (.int .i64 g1) rfl))
  have t1a_1 := fun (o0 : Obj) => ((Ext.alloc w1 o0).cell (bxa.c 1 (.slice A1 L1 c1) rfl))
  have t1r_0 := fun (o0 : Obj) => ((Ext.alloc w1 o0).cell (bxr.c 0 (.int .i64 0) rfl))
  have t1r_1 := fun (o0 : Obj) => ((Ext.alloc w1 o0).cell (bxr.c 1 (.slice none 0 0) rfl))
  go_wp2_with fail
  clear ka_0 ka_1 kr_0 kr_1 t1a_0 t1a_1 t1r_0 t1r_1
  obtain ⟨w2, hw⟩ : ∃ z : World, z = (w1.alloc (.cells #[.int .i64 go, .slice Ao Lo co] 36)) := ⟨_, rfl⟩
  rw [← hw]
  have x2 : Ext w1 w2 := by rw [hw]; exact (Ext.alloc _ _)
  replace bxa := bxa.ext x2
  replace bxr := bxr.ext x2
  have bxou : BK w2 (w1.heap.size) 36 #[.int .i64 go, .slice Ao Lo co] := by rw [hw]; have h5 := (BK.new w1 #[.int .i64 go, .slice Ao Lo co] 36); simpa only [World.size_alloc] using h5
  have szw2 : w2.heap.size = w1.heap.size + 1 := by rw [hw]; simp only [World.size_alloc]
  clear hw
  have hro : RZ w2 go Ao co Lo (x ^ 0) := by rw [Int.pow_zero]; exact HO.out.ext x2
  have HRO := Lib.hid hro
  clear hro HO bxa bxr
  go_loopw [6] (fun iv wr => ∃ (k : Nat) (g : Int) (A : Option Addr) (c L : Nat), iv = .int .i64 k ∧ k ≤ n ∧ BK wr w1.heap.size 36 #[.int .i64 g, .slice A L c] ∧ Hid (RZ wr g A c L (x ^ k)) ∧ Ext w1 wr) (fun iv _ => n - (intOf iv).toNat)
  case atStart => exact ⟨0, _, _, _, _, rfl, Nat.zero_le _, bxou, HRO, x2⟩
  case round =>
    clear bxou HRO
    obtain ⟨k, gk, Ak, ck, Lk, rfl, hk, bxou, HR, hx⟩ := hrel
    have hszr := hx.size
    have hlo := bxou.lt
    have bxa := HBX.out.1.ext hx
    have bxr := HBX.out.2.ext hx
    have xwr : Ext w wr := xw1.trans hx
    by_cases hlt : k < n
    · have b1 := HBD.out k hk
      have ka_0 := bxa.c 0 (.int .i64 g1) rfl
      have ka_1 := bxa.c 1 (.slice A1 L1 c1) rfl
      have kr_0 := bxr.c 0 (.int .i64 0) rfl
      have kr_1 := bxr.c 1 (.slice none 0 0) rfl
      have kou_0 := bxou.c 0 (.int .i64 gk) rfl
      have kou_1 := bxou.c 1 (.slice Ak Lk ck) rfl
      go_wp2_with fail
      clear ka_0 ka_1 kr_0 kr_1 kou_0 kou_1
      refine (mul_rz (HR.out.ext (by repeat' (first | with_reducible exact Ext.refl _ | with_reducible assumption | with_reducible apply Ext.alloc_r | with_reducible apply Ext.drew_r | with_reducible apply Ext.drewN_r | with_reducible refine Ext.trans ?_ ‹Ext _ _›))) (H1.out.ext (by repeat' (first | with_reducible exact Ext.refl _ | with_reducible assumption | with_reducible apply Ext.alloc_r | with_reducible apply Ext.drew_r | with_reducible apply Ext.drewN_r | with_reducible refine Ext.trans ?_ ‹Ext _ _›))) (by omega) (by omega)).mono ?_
      rintro e w3 ⟨gm, Am, cm, Lm, rfl, m, x3⟩
      have szw3 : wr.heap.size ≤ w3.heap.size := x3.size
      replace bxa := bxa.ext x3
      replace bxr := bxr.ext x3
      replace bxou := bxou.ext x3
      have HM := Lib.hid m
      clear m HR
      have ka_0 := bxa.c 0 (.int .i64 g1) rfl
      have ka_1 := bxa.c 1 (.slice A1 L1 c1) rfl
      have kr_0 := bxr.c 0 (.int .i64 0) rfl
      have kr_1 := bxr.c 1 (.slice none 0 0) rfl
      have kou_0 := bxou.c 0 (.int .i64 gk) rfl
      have fou_0 := bxou.f 0
      have kou_1 := bxou.c 1 (.slice Ak Lk ck) rfl
      have fou_1 := bxou.f 1
      go_wp2_with fail
      clear ka_0 ka_1 kr_0 kr_1 kou_0 fou_0 kou_1 fou_1
      have m := HM.out
      clear HM
      obtain ⟨w4, hw⟩ : ∃ z : World, z = ((w3.setCell ⟨w1.heap.size, 0, none⟩ (.int .i64 gm)).setCell ⟨w1.heap.size, 1, none⟩ (.slice Am Lm cm)) := ⟨_, rfl⟩
      rw [← hw]
      have kw4 : Kept w3 w4 := by rw [hw]; exact (Kept.set_ (Kept.set_ (Kept.refl _) bxou.isBox plain_Z) (IsBox.set_ bxou.isBox) plain_Z)
      have nba : BK w4 (w.heap.size) 36 #[.int .i64 g1, .slice A1 L1 c1] := by rw [hw]; exact (BK.far (BK.far bxa (show w.heap.size ≠ w1.heap.size by omega) 0 _) (show w.heap.size ≠ w1.heap.size by omega) 1 _)
      have nbr : BK w4 (w.heap.size + 1) 36 #[.int .i64 0, .slice none 0 0] := by rw [hw]; exact (BK.far (BK.far bxr (show w.heap.size + 1 ≠ w1.heap.size by omega) 0 _) (show w.heap.size + 1 ≠ w1.heap.size by omega) 1 _)
      have nbou : BK w4 (w1.heap.size) 36 #[.int .i64 gm, .slice Am Lm cm] := by rw [hw]; exact (BK.set (i := 1) (u := .slice Am Lm cm) (vs' := #[.int .i64 gm, .slice Am Lm cm]) (BK.set (i := 0) (u := .int .i64 gm) (vs' := #[.int .i64 gm, .slice Ak Lk ck]) bxou rfl) rfl)
      have x4 : Ext w1 w4 := by rw [hw]; have hxp : Ext w1 w3 := (by repeat' (first | with_reducible exact Ext.refl _ | with_reducible assumption | with_reducible apply Ext.alloc_r | with_reducible apply Ext.drew_r | with_reducible apply Ext.drewN_r | with_reducible refine Ext.trans ?_ ‹Ext _ _›)); exact (Ext.set_ (Ext.set_ hxp (show _ ≤ w1.heap.size by omega)) (show _ ≤ w1.heap.size by omega))
      clear bxa
      clear bxr
      clear bxou
      have bxa := nba
      clear nba
      have bxr := nbr
      clear nbr
      have bxou := nbou
      clear nbou
      have szw4 : w4.heap.size = w3.heap.size := by rw [hw]; simp
      replace m := (m.ext (by repeat' (first | with_reducible exact Ext.refl _ | with_reducible assumption | with_reducible apply Ext.alloc_r | with_reducible apply Ext.drew_r | with_reducible apply Ext.drewN_r | with_reducible refine Ext.trans ?_ ‹Ext _ _›))).kept kw4
      clear hw kw4
      have HM : Hid (RZ w4 gm Am cm Lm (x ^ (k + 1))) := by show RZ _ _ _ _ _ _; rw [Int.pow_succ]; exact m
      clear m
      go_roundw
      case rel => exact ⟨k + 1, _, _, _, _, by go_num, by omega, bxou, HM, x4⟩
      case measure => simp [intOf]; omega
    · obtain rfl : k = n := by omega
      have ka_0 := bxa.c 0 (.int .i64 g1) rfl
      have ka_1 := bxa.c 1 (.slice A1 L1 c1) rfl
      have kr_0 := bxr.c 0 (.int .i64 0) rfl
      have fr_0 := bxr.f 0
      have kr_1 := bxr.c 1 (.slice none 0 0) rfl
      have fr_1 := bxr.f 1
      have kou_0 := bxou.c 0 (.int .i64 gk) rfl
      have kou_1 := bxou.c 1 (.slice Ak Lk ck) rfl
      go_wp2_with fail
      clear ka_0 ka_1 kr_0 fr_0 kr_1 fr_1 kou_0 kou_1
      have z := HR.out
      clear HR
      obtain ⟨w23, hw⟩ : ∃ z : World, z = ((wr.setCell ⟨w.heap.size + 1, 0, none⟩ (.int .i64 gk)).setCell ⟨w.heap.size + 1, 1, none⟩ (.slice Ak Lk ck)) := ⟨_, rfl⟩
      rw [← hw]
      have kw23 : Kept wr w23 := by rw [hw]; exact (Kept.set_ (Kept.set_ (Kept.refl _) bxr.isBox plain_Z) (IsBox.set_ bxr.isBox) plain_Z)
      have nba : BK w23 (w.heap.size) 36 #[.int .i64 g1, .slice A1 L1 c1] := by rw [hw]; exact (BK.far (BK.far bxa (show w.heap.size ≠ w.heap.size + 1 by omega) 0 _) (show w.heap.size ≠ w.heap.size + 1 by omega) 1 _)
      have nbr : BK w23 (w.heap.size + 1) 36 #[.int .i64 gk, .slice Ak Lk ck] := by rw [hw]; exact (BK.set (i := 1) (u := .slice Ak Lk ck) (vs' := #[.int .i64 gk, .slice Ak Lk ck]) (BK.set (i := 0) (u := .int .i64 gk) (vs' := #[.int .i64 gk, .slice none 0 0]) bxr rfl) rfl)
      have nbou : BK w23 (w1.heap.size) 36 #[.int .i64 gk, .slice Ak Lk ck] := by rw [hw]; exact (BK.far (BK.far bxou (show w1.heap.size ≠ w.heap.size + 1 by omega) 0 _) (show w1.heap.size ≠ w.heap.size + 1 by omega) 1 _)
      have x23 : Ext w w23 := by rw [hw]; have hxp : Ext w wr := (by repeat' (first | with_reducible exact Ext.refl _ | with_reducible assumption | with_reducible apply Ext.alloc_r | with_reducible apply Ext.drew_r | with_reducible apply Ext.drewN_r | with_reducible refine Ext.trans ?_ ‹Ext _ _›)); exact (Ext.set_ (Ext.set_ hxp (show _ ≤ w.heap.size + 1 by omega)) (show _ ≤ w.heap.size + 1 by omega))
      clear bxa
      clear bxr
      clear bxou
      have bxa := nba
      clear nba
      have bxr := nbr
      clear nbr
      have bxou := nbou
      clear nbou
      have szw23 : w23.heap.size = wr.heap.size := by rw [hw]; simp
      replace z := (z.ext (by repeat' (first | with_reducible exact Ext.refl _ | with_reducible assumption | with_reducible apply Ext.alloc_r | with_reducible apply Ext.drew_r | with_reducible apply Ext.drewN_r | with_reducible refine Ext.trans ?_ ‹Ext _ _›))).kept kw23
      clear hw kw23
      have HZ := Lib.hid z
      clear z
      have kr_0 := bxr.c 0 (.int .i64 gk) rfl
      have kr_1 := bxr.c 1 (.slice Ak Lk ck) rfl
      refine bodyPost_ret (v := .agg #[.int .i64 gk, .slice Ak Lk ck]) (by simp [results, Try.results66, go_sem, kr_0, kr_1]) rfl ?_
      exact ⟨_, _, _, _, rfl, HZ.out, x23⟩
theorem qr_half0 {w : World} {g h : Int} {A B : Option Addr} {c d L M : Nat} (h1 : RZ w g A c L 1) (h2 : RZ w h B d M 2) : QR w g A c L h B d M 2 (mkRat 1 2) :=
  qr_mk (y := 2) h1 h2 (by omega) (bl_of_lt (by show 1 < _; omega)) (bl_of_lt (by omega))
theorem bl_ten (k : Nat) : bl ((10 : Int) ^ k).natAbs ≤ 4 * k + 1 := by
  refine bl_of_lt ?_
  rw [Int.natAbs_pow]
  show 10 ^ k < 2 ^ (4 * k + 1)
  have h1 : 10 ^ k ≤ 16 ^ k := Nat.pow_le_pow_left (by omega) k
  have h2 : 2 ^ (4 * k) = 16 ^ k := by rw [Nat.pow_mul]
  have h3 : 0 < 16 ^ k := Nat.pow_pos (by omega)
  rw [Nat.pow_succ, h2]
  omega
theorem decV_parts {q : Rat} {X : Int} {Y p : Nat} (h : absQ q = mkRat X Y) : floorQ (mkRat (X * (10 : Int) ^ p) Y + mkRat 1 2) = decV q p := by
  unfold decV
  rw [h, ← Rat.mkRat_one, Rat.mkRat_mul_mkRat, Nat.mul_one]
theorem bl_decV {q : Rat} {X : Int} {Y p K : Nat} (h : absQ q = mkRat X Y) (hY : 0 < Y) (h1 : bl X.natAbs ≤ K) (h2 : bl Y ≤ K) (hp : p ≤ 40) : bl (decV q p).natAbs ≤ K + K + 400 := by
  rw [← decV_parts h, Rat.mkRat_add_mkRat _ _ (by omega) (by omega), floorQ_mk (by omega)]
  refine Nat.le_trans (blz_div _ _) ?_
  have a1 := blz_mul X ((10 : Int) ^ p)
  have a2 := bl_ten p
  have a3 := blz_mul (X * (10 : Int) ^ p) 2
  have a4 : bl (2 : Int).natAbs ≤ 2 := bl_of_lt (by show 2 < _; omega)
  have a5 : bl ((1 : Int) * (Y : Int)).natAbs ≤ K := by rw [Int.one_mul, bl_nat]; exact h2
  have a6 := bl_add (X * (10 : Int) ^ p * 2).natAbs ((1 : Int) * (Y : Int)).natAbs
  have a7 : bl (X * (10 : Int) ^ p * ((2 : Nat) : Int) + 1 * (Y : Int)).natAbs ≤ bl ((X * (10 : Int) ^ p * 2).natAbs + ((1 : Int) * (Y : Int)).natAbs) := bl_mono (Int.natAbs_add_le _ _)
  omega
theorem BK.alloc_s {w : World} {b : Nat} {T : TypeId} {vs : Array Value} {o : Obj} (h : BK w b T vs) : BK (w.alloc o) b T vs := h.ext (Ext.alloc _ _)
theorem BK.drew_s {w : World} {b : Nat} {T : TypeId} {vs : Array Value} (h : BK w b T vs) : BK w.drew b T vs := h.ext (Ext.drew _)
theorem BK.new_s {w : World} {b : Nat} {T : TypeId} {vs : Array Value} (hb : b = w.heap.size) : BK (w.alloc (.cells vs T)) b T vs := by rw [hb]; exact BK.new w vs T
theorem BK.set4q {w : World} {b : Nat} {T : TypeId} {u0 u1 u2 u3 v0 v1 v2 v3 : Value} (h : BK w b T #[u0, u1, u2, u3]) : BK ((((w.setCell ⟨b, 0, none⟩ v0).setCell ⟨b, 1, none⟩ v1).setCell ⟨b, 2, none⟩ v2).setCell ⟨b, 3, none⟩ v3) b T #[v0, v1, v2, v3] :=
  (BK.set (i := 3) (u := v3) (vs' := #[v0, v1, v2, v3]) (BK.set (i := 2) (u := v2) (vs' := #[v0, v1, v2, u3]) (BK.set (i := 1) (u := v1) (vs' := #[v0, v1, u2, u3]) (BK.set (i := 0) (u := v0) (vs' := #[v0, u1, u2, u3]) h rfl) rfl) rfl) rfl)
/-- A fraction of the reference in a box laid behind w, its numerator x in front of two given cells. -/
def PutQK (w w' : World) (x : Int) (v2 v3 : Value) (s : Value) : Prop := ∃ b g A c L, s = .pointer (some ⟨b, 0, none⟩) ∧ w.heap.size ≤ b ∧ BK w' b 38 #[.int .i64 g, .slice A L c, v2, v3] ∧ RZ w' g A c L x ∧ Ext w w'
theorem PutQK.mk {w w' : World} {b : Nat} {x g : Int} {A : Option Addr} {c L : Nat} {v2 v3 : Value} (hb : w.heap.size ≤ b) (k : BK w' b 38 #[.int .i64 g, .slice A L c, v2, v3]) (h : RZ w' g A c L x) (hx : Ext w w') : PutQK w w' x v2 v3 (.pointer (some ⟨b, 0, none⟩)) := ⟨b, g, A, c, L, rfl, hb, k, h, hx⟩
theorem decV_nn0 (q : Rat) (p : Nat) : 0 ≤ decV q p := by
  have h := decV_nn (x := q.num) (p := p) q.den_pos
  rwa [Rat.mkRat_self] at h
set_option maxHeartbeats 4000000 in
set_option maxRecDepth 100000 in
theorem qdec_neg {w : World} {g1 h1 : Int} {A1 B1 : Option Addr} {c1 d1 L1 M1 K1 : Nat} {q1 : Rat} (z1 : QR w g1 A1 c1 L1 h1 B1 d1 M1 K1 q1) (hs1 : K1 ≤ 1000) {p : Nat} (hp : p ≤ 40) (hsg : q1.num < 0) :
    Calls Try.prog 15 #[Value.agg #[Value.int .i64 g1, Value.slice A1 L1 c1, Value.int .i64 h1, Value.slice B1 M1 d1], .int .i64 p] w (RetS w (decT q1 p)) := by
  have hg1 : g1 = q1.num.sign := z1.sign
  have hg : g1 < 0 := by rw [hg1]; rcases sign_cases q1.num with ⟨h5, h6⟩ | ⟨h5, h6⟩ | ⟨h5, h6⟩ <;> omega
  have HAQ : Hid (-q1 = absQ q1) := by show _ = _; unfold absQ; rw [if_pos hsg]
  have HSG := Lib.hid hsg
  have HZ1 := Lib.hid z1
  have a1 : ∀ k, k ≤ p → bl ((10 : Int) ^ k).natAbs ≤ 100000 := fun k hk => by have := bl_ten k; omega
  have HA1 := Lib.hid a1
  have a2 := bl_ten p
  obtain ⟨PW, hPW⟩ : ∃ PW : Int, (10 : Int) ^ p = PW := ⟨_, rfl⟩
  rw [hPW] at a2
  have HPW := Lib.hid hPW
  clear z1 hg1 hsg a1 hPW
  go_enter Try.func15, Try.ntmps15
  go_wp2_with fail
  obtain ⟨w0, hw0⟩ : ∃ z : World, z = ((w.alloc (.cells #[.int .i64 g1, .slice A1 L1 c1, .int .i64 h1, .slice B1 M1 d1] 38)).alloc (.cells #[.int .i64 g1, .slice A1 L1 c1, .int .i64 h1, .slice B1 M1 d1] 38)) := ⟨_, rfl⟩
  rw [← hw0]
  have bxa : BK w0 (w.heap.size) 38 #[.int .i64 g1, .slice A1 L1 c1, .int .i64 h1, .slice B1 M1 d1] := by rw [hw0]; have h5 := (BK.ext (BK.new w #[.int .i64 g1, .slice A1 L1 c1, .int .i64 h1, .slice B1 M1 d1] 38) (Ext.alloc _ (.cells #[.int .i64 g1, .slice A1 L1 c1, .int .i64 h1, .slice B1 M1 d1] 38))); simpa only [World.size_alloc] using h5
  have bxab : BK w0 (w.heap.size + 1) 38 #[.int .i64 g1, .slice A1 L1 c1, .int .i64 h1, .slice B1 M1 d1] := by rw [hw0]; have h5 := (BK.new (w.alloc (.cells #[.int .i64 g1, .slice A1 L1 c1, .int .i64 h1, .slice B1 M1 d1] 38)) #[.int .i64 g1, .slice A1 L1 c1, .int .i64 h1, .slice B1 M1 d1] 38); simpa only [World.size_alloc] using h5
  have hszw0 : w0.heap.size = w.heap.size + 1 + 1 := by rw [hw0]; simp only [World.size_alloc]
  have xw0 : Ext w w0 := by rw [hw0]; exact ((Ext.alloc _ _).trans (Ext.alloc _ _))
  clear hw0
  refine (qneg_r (HZ1.out.ext (by repeat' (first | with_reducible exact Ext.refl _ | with_reducible assumption | with_reducible apply Ext.alloc_r | with_reducible apply Ext.drew_r | with_reducible apply Ext.drewN_r | with_reducible refine Ext.trans ?_ ‹Ext _ _›)))).mono ?_
  rintro e w1 ⟨gv, Av, cv, Lv, hv, Bv, dv, Mv, rfl, v, x1⟩
  have szw1 : w0.heap.size ≤ w1.heap.size := x1.size
  replace bxa := bxa.ext x1
  replace bxab := bxab.ext x1
  have HVV := Lib.hid v
  clear v
  have ka_0 := bxa.c 0 (.int .i64 g1) rfl
  have ka_1 := bxa.c 1 (.slice A1 L1 c1) rfl
  have ka_2 := bxa.c 2 (.int .i64 h1) rfl
  have ka_3 := bxa.c 3 (.slice B1 M1 d1) rfl
  have kab_0 := bxab.c 0 (.int .i64 g1) rfl
  have fab_0 := bxab.f 0
  have kab_1 := bxab.c 1 (.slice A1 L1 c1) rfl
  have fab_1 := bxab.f 1
  have kab_2 := bxab.c 2 (.int .i64 h1) rfl
  have fab_2 := bxab.f 2
  have kab_3 := bxab.c 3 (.slice B1 M1 d1) rfl
  have fab_3 := bxab.f 3
  go_wp2_with fail
  clear ka_0 ka_1 ka_2 ka_3 kab_0 fab_0 kab_1 fab_1 kab_2 fab_2 kab_3 fab_3
  have v := HVV.out
  clear HVV
  obtain ⟨w2, hw⟩ : ∃ z : World, z = ((((w1.setCell ⟨w.heap.size + 1, 0, none⟩ (.int .i64 gv)).setCell ⟨w.heap.size + 1, 1, none⟩ (.slice Av Lv cv)).setCell ⟨w.heap.size + 1, 2, none⟩ (.int .i64 hv)).setCell ⟨w.heap.size + 1, 3, none⟩ (.slice Bv Mv dv)) := ⟨_, rfl⟩
  rw [← hw]
  have kw2 : Kept w1 w2 := by rw [hw]; exact (Kept.set_ (Kept.set_ (Kept.set_ (Kept.set_ (Kept.refl _) bxab.isBox plain_Q) (IsBox.set_ bxab.isBox) plain_Q) (IsBox.set_ (IsBox.set_ bxab.isBox)) plain_Q) (IsBox.set_ (IsBox.set_ (IsBox.set_ bxab.isBox))) plain_Q)
  have nba : BK w2 (w.heap.size) 38 #[.int .i64 g1, .slice A1 L1 c1, .int .i64 h1, .slice B1 M1 d1] := by rw [hw]; exact (BK.far (BK.far (BK.far (BK.far bxa (show w.heap.size ≠ w.heap.size + 1 by omega) 0 _) (show w.heap.size ≠ w.heap.size + 1 by omega) 1 _) (show w.heap.size ≠ w.heap.size + 1 by omega) 2 _) (show w.heap.size ≠ w.heap.size + 1 by omega) 3 _)
  have nbab : BK w2 (w.heap.size + 1) 38 #[.int .i64 gv, .slice Av Lv cv, .int .i64 hv, .slice Bv Mv dv] := by rw [hw]; exact (BK.set (i := 3) (u := .slice Bv Mv dv) (vs' := #[.int .i64 gv, .slice Av Lv cv, .int .i64 hv, .slice Bv Mv dv]) (BK.set (i := 2) (u := .int .i64 hv) (vs' := #[.int .i64 gv, .slice Av Lv cv, .int .i64 hv, .slice B1 M1 d1]) (BK.set (i := 1) (u := .slice Av Lv cv) (vs' := #[.int .i64 gv, .slice Av Lv cv, .int .i64 h1, .slice B1 M1 d1]) (BK.set (i := 0) (u := .int .i64 gv) (vs' := #[.int .i64 gv, .slice A1 L1 c1, .int .i64 h1, .slice B1 M1 d1]) bxab rfl) rfl) rfl) rfl)
  have x2 : Ext w w2 := by rw [hw]; have hxp : Ext w w1 := (by repeat' (first | with_reducible exact Ext.refl _ | with_reducible assumption | with_reducible apply Ext.alloc_r | with_reducible apply Ext.drew_r | with_reducible apply Ext.drewN_r | with_reducible refine Ext.trans ?_ ‹Ext _ _›)); exact (Ext.set_ (Ext.set_ (Ext.set_ (Ext.set_ hxp (show _ ≤ w.heap.size + 1 by omega)) (show _ ≤ w.heap.size + 1 by omega)) (show _ ≤ w.heap.size + 1 by omega)) (show _ ≤ w.heap.size + 1 by omega))
  clear bxa
  clear bxab
  have bxa := nba
  clear nba
  have bxab := nbab
  clear nbab
  have szw2 : w2.heap.size = w1.heap.size := by rw [hw]; simp
  replace v := (v.ext (by repeat' (first | with_reducible exact Ext.refl _ | with_reducible assumption | with_reducible apply Ext.alloc_r | with_reducible apply Ext.drew_r | with_reducible apply Ext.drewN_r | with_reducible refine Ext.trans ?_ ‹Ext _ _›))).kept kw2
  clear hw kw2
  rw [HAQ.out] at v
  have HAB := Lib.hid v
  clear v
  obtain ⟨X, Y, p1, p2, p3, p4, p5, p6⟩ := HAB.out.ex
  have HXY := Lib.hid (And.intro p1 p2)
  have HDV := Lib.hid (decV_parts (p := p) p4)
  rw [HPW.out] at HDV
  have bdv := bl_decV p4 p3 p5 p6 hp
  clear p1 p2 p4 HAB
  have ka_0 := bxa.c 0 (.int .i64 g1) rfl
  have ka_1 := bxa.c 1 (.slice A1 L1 c1) rfl
  have ka_2 := bxa.c 2 (.int .i64 h1) rfl
  have ka_3 := bxa.c 3 (.slice B1 M1 d1) rfl
  have kab_0 := bxab.c 0 (.int .i64 gv) rfl
  have kab_1 := bxab.c 1 (.slice Av Lv cv) rfl
  have kab_2 := bxab.c 2 (.int .i64 hv) rfl
  have kab_3 := bxab.c 3 (.slice Bv Mv dv) rfl
  go_wp2_with fail
  clear ka_0 ka_1 ka_2 ka_3 kab_0 kab_1 kab_2 kab_3
  refine (small_rz (n := 10) (by omega)).mono ?_
  rintro e w3 ⟨gt, At, ct, Lt, rfl, t, x3⟩
  have szw3 : w2.heap.size ≤ w3.heap.size := x3.size
  replace bxa := bxa.ext x3
  replace bxab := bxab.ext x3
  have HT := Lib.hid t
  clear t
  have u10 : bl (10 : Int).natAbs ≤ 4 := bl_of_lt (by show 10 < _; omega)
  have ka_0 := bxa.c 0 (.int .i64 g1) rfl
  have ka_1 := bxa.c 1 (.slice A1 L1 c1) rfl
  have ka_2 := bxa.c 2 (.int .i64 h1) rfl
  have ka_3 := bxa.c 3 (.slice B1 M1 d1) rfl
  have kab_0 := bxab.c 0 (.int .i64 gv) rfl
  have kab_1 := bxab.c 1 (.slice Av Lv cv) rfl
  have kab_2 := bxab.c 2 (.int .i64 hv) rfl
  have kab_3 := bxab.c 3 (.slice Bv Mv dv) rfl
  go_wp2_with fail
  clear ka_0 ka_1 ka_2 ka_3 kab_0 kab_1 kab_2 kab_3
  refine (toRZ HPW.out (rpow_rz (n := p) (HT.out.ext (by repeat' (first | with_reducible exact Ext.refl _ | with_reducible assumption | with_reducible apply Ext.alloc_r | with_reducible apply Ext.drew_r | with_reducible apply Ext.drewN_r | with_reducible refine Ext.trans ?_ ‹Ext _ _›))) (by omega) HA1.out (by omega))).mono ?_
  rintro e w4 ⟨gpw, Apw, cpw, Lpw, rfl, pw, x4⟩
  have szw4 : w3.heap.size ≤ w4.heap.size := x4.size
  replace bxa := bxa.ext x4
  replace bxab := bxab.ext x4
  have HP := Lib.hid pw
  clear pw HT
  have ka_0 := bxa.c 0 (.int .i64 g1) rfl
  have ka_1 := bxa.c 1 (.slice A1 L1 c1) rfl
  have ka_2 := bxa.c 2 (.int .i64 h1) rfl
  have ka_3 := bxa.c 3 (.slice B1 M1 d1) rfl
  have kab_0 := bxab.c 0 (.int .i64 gv) rfl
  have kab_1 := bxab.c 1 (.slice Av Lv cv) rfl
  have kab_2 := bxab.c 2 (.int .i64 hv) rfl
  have kab_3 := bxab.c 3 (.slice Bv Mv dv) rfl
  have t1a_0 := fun (o0 : Obj) => ((Ext.alloc w4 o0).cell (bxa.c 0 (.int .i64 g1) rfl))
  have t1a_1 := fun (o0 : Obj) => ((Ext.alloc w4 o0).cell (bxa.c 1 (.slice A1 L1 c1) rfl))
  have t1a_2 := fun (o0 : Obj) => ((Ext.alloc w4 o0).cell (bxa.c 2 (.int .i64 h1) rfl))
  have t1a_3 := fun (o0 : Obj) => ((Ext.alloc w4 o0).cell (bxa.c 3 (.slice B1 M1 d1) rfl))
  have t1ab_0 := fun (o0 : Obj) => ((Ext.alloc w4 o0).cell (bxab.c 0 (.int .i64 gv) rfl))
  have t1ab_1 := fun (o0 : Obj) => ((Ext.alloc w4 o0).cell (bxab.c 1 (.slice Av Lv cv) rfl))
  have t1ab_2 := fun (o0 : Obj) => ((Ext.alloc w4 o0).cell (bxab.c 2 (.int .i64 hv) rfl))
  have t1ab_3 := fun (o0 : Obj) => ((Ext.alloc w4 o0).cell (bxab.c 3 (.slice Bv Mv dv) rfl))
  go_wp2_with fail
  clear ka_0 ka_1 ka_2 ka_3 kab_0 kab_1 kab_2 kab_3 t1a_0 t1a_1 t1a_2 t1a_3 t1ab_0 t1ab_1 t1ab_2 t1ab_3
  obtain ⟨w5, hw⟩ : ∃ z : World, z = (w4.alloc (.cells #[.int .i64 gpw, .slice Apw Lpw cpw] 36)) := ⟨_, rfl⟩
  rw [← hw]
  have x5 : Ext w4 w5 := by rw [hw]; exact (Ext.alloc _ _)
  replace bxa := bxa.ext x5
  replace bxab := bxab.ext x5
  have bxte : BK w5 (w4.heap.size) 36 #[.int .i64 gpw, .slice Apw Lpw cpw] := by rw [hw]; have h5 := (BK.new w4 #[.int .i64 gpw, .slice Apw Lpw cpw] 36); simpa only [World.size_alloc] using h5
  have szw5 : w5.heap.size = w4.heap.size + 1 := by rw [hw]; simp only [World.size_alloc]
  clear hw
  have kab_0 := bxab.c 0 (.int .i64 gv) rfl
  have kab_1 := bxab.c 1 (.slice Av Lv cv) rfl
  have kab_2 := bxab.c 2 (.int .i64 hv) rfl
  have kab_3 := bxab.c 3 (.slice Bv Mv dv) rfl
  have kte_0 := bxte.c 0 (.int .i64 gpw) rfl
  have kte_1 := bxte.c 1 (.slice Apw Lpw cpw) rfl
  have HSZ := Lib.hid (And.intro True.intro (And.intro hszw0 (And.intro szw1 (And.intro szw2 (And.intro szw3 (And.intro szw4 szw5))))))
  clear hszw0 szw1 szw2 szw3 szw4 szw5
  go_wp2_with fail
  go_cut [7] (fun s7 wx => PutQK w5 wx (X * PW) (.int .i64 hv) (.slice Bv Mv dv) s7)
  case first =>
    have HK : Hid (∀ w', Ext w5 w' → Ext w5 w' ∧ w'.cell? ⟨w.heap.size + 1, 0, none⟩ = some (.int .i64 gv) ∧ w'.cell? ⟨w.heap.size + 1, 1, none⟩ = some (.slice Av Lv cv) ∧ w'.cell? ⟨w.heap.size + 1, 2, none⟩ = some (.int .i64 hv) ∧ w'.cell? ⟨w.heap.size + 1, 3, none⟩ = some (.slice Bv Mv dv) ∧ w'.cell? ⟨w4.heap.size, 0, none⟩ = some (.int .i64 gpw) ∧ w'.cell? ⟨w4.heap.size, 1, none⟩ = some (.slice Apw Lpw cpw)) := fun w' hk => ⟨hk, hk.cell kab_0, hk.cell kab_1, hk.cell kab_2, hk.cell kab_3, hk.cell kte_0, hk.cell kte_1⟩
    first
    | go_region_held3 (fun w' => Ext w5 w' ∧ w'.cell? ⟨w.heap.size + 1, 0, none⟩ = some (.int .i64 gv) ∧ w'.cell? ⟨w.heap.size + 1, 1, none⟩ = some (.slice Av Lv cv) ∧ w'.cell? ⟨w.heap.size + 1, 2, none⟩ = some (.int .i64 hv) ∧ w'.cell? ⟨w.heap.size + 1, 3, none⟩ = some (.slice Bv Mv dv) ∧ w'.cell? ⟨w4.heap.size, 0, none⟩ = some (.int .i64 gpw) ∧ w'.cell? ⟨w4.heap.size, 1, none⟩ = some (.slice Apw Lpw cpw))
        ((with_reducible refine HK.out _ ?_; (repeat' (first | with_reducible exact Ext.refl _ | with_reducible assumption | with_reducible apply Ext.alloc_r | with_reducible apply Ext.drew_r | with_reducible apply Ext.drewN_r | with_reducible apply Ext.set_r | with_reducible exact Nat.le_refl _ | omega | with_reducible refine Ext.trans ?_ ‹Ext _ _›))))
        (first
          | (go_at_call 67; refine (mul_rz (HXY.out.1.ext (by repeat' (first | with_reducible exact Ext.refl _ | with_reducible assumption | with_reducible apply Ext.alloc_r | with_reducible apply Ext.drew_r | with_reducible apply Ext.drewN_r | with_reducible refine Ext.trans ?_ ‹Ext _ _›))) (HP.out.ext (by repeat' (first | with_reducible exact Ext.refl _ | with_reducible assumption | with_reducible apply Ext.alloc_r | with_reducible apply Ext.drew_r | with_reducible apply Ext.drewN_r | with_reducible refine Ext.trans ?_ ‹Ext _ _›))) (by omega) (by omega)).mono ?_; rintro e w6 ⟨gm, Am, cm, Lm, rfl, m, x6⟩; (have zs6 := x6.size); (try simp only [World.size_alloc, World.size_drew] at zs6); (try ((with_reducible have h6_0 := box_ext (vs := #[.int .i64 0, .slice none 0 0, .int .i64 0, .slice none 0 0]) ((Ext.drew _).trans x6)); have h6_0c0 := (h6_0.1 0 (.int .i64 0) rfl).1; have h6_0f0 := (h6_0.1 0 (.int .i64 0) rfl).2; have h6_0c1 := (h6_0.1 1 (.slice none 0 0) rfl).1; have h6_0f1 := (h6_0.1 1 (.slice none 0 0) rfl).2; have h6_0c2 := (h6_0.1 2 (.int .i64 0) rfl).1; have h6_0f2 := (h6_0.1 2 (.int .i64 0) rfl).2; have h6_0c3 := (h6_0.1 3 (.slice none 0 0) rfl).1; have h6_0f3 := (h6_0.1 3 (.slice none 0 0) rfl).2; have h6_0b := h6_0.2.1; have h6_0z := h6_0.2.2; (try simp only [World.size_alloc] at h6_0b h6_0z h6_0c0 h6_0f0 h6_0c1 h6_0f1 h6_0c2 h6_0f2 h6_0c3 h6_0f3); have h6_0m := Nat.ne_of_lt h6_0z; have h6_0n := Nat.ne_of_gt h6_0z; clear h6_0))))
    | fail
    all_goals (clear HK; go_wp2_with fail; go_meet)
    all_goals
      refine PutQK.mk (g := gm) (A := Am) (c := cm) (L := Lm) ?_ ?_ (m.kept ?_) ?_
      · (first | exact Nat.le_refl _ | omega | (simp only [World.size_alloc, World.size_drew]; omega) | (simp; omega))
      · (repeat' (first | with_reducible assumption | with_reducible apply BK.set4q | with_reducible apply BK.set2z | (with_reducible apply BK.far2z; (case hne => (first | assumption | omega | (simp; done) | (simp only [World.size_alloc, World.size_drew]; omega)))) | (with_reducible apply BK.far2z; (case hne => (first | assumption | omega | (simp; done) | (simp only [World.size_alloc, World.size_drew]; omega)))) | (with_reducible apply BK.new_s; (first | rfl | (simp; done))) | with_reducible apply BK.alloc_s | with_reducible apply BK.drew_s | with_reducible refine BK.ext ?_ ‹Ext _ _›))
      · (repeat' (first | with_reducible exact Kept.refl _ | with_reducible apply Kept.alloc_r | with_reducible apply Kept.drew_r | (with_reducible apply Kept.setQ; (case hb => ((repeat' (first | with_reducible assumption | with_reducible apply IsBox.set_ | (with_reducible apply IsBox.new; (first | (with_reducible rfl) | simp); done) | with_reducible apply IsBox.alloc_ | with_reducible apply IsBox.drew_ | with_reducible refine IsBox.ext ?_ ‹Ext _ _›)); done))) | (with_reducible apply Kept.setZ; (case hb => ((repeat' (first | with_reducible assumption | with_reducible apply IsBox.set_ | (with_reducible apply IsBox.new; (first | (with_reducible rfl) | simp); done) | with_reducible apply IsBox.alloc_ | with_reducible apply IsBox.drew_ | with_reducible refine IsBox.ext ?_ ‹Ext _ _›)); done))) | with_reducible refine Kept.trans ?_ (Ext.kept ‹Ext _ _›)))
      · (repeat' (first | with_reducible exact Ext.refl _ | with_reducible assumption | with_reducible apply Ext.alloc_r | with_reducible apply Ext.drew_r | with_reducible apply Ext.drewN_r | with_reducible apply Ext.set_r | with_reducible exact Nat.le_refl _ | omega | with_reducible refine Ext.trans ?_ ‹Ext _ _›))
  case rest =>
    obtain ⟨hszw0, szw1, szw2, szw3, szw4, szw5⟩ := HSZ.out.2
    clear kab_0 kab_1 kab_2 kab_3 kte_0 kte_1
    obtain ⟨b7, gm, Am, cm, Lm, rfl, hb7, bxsc, mm, hxc⟩ := hcut
    obtain ⟨ws, rfl⟩ : ∃ z : World, z = wc := ⟨_, rfl⟩
    have szws : w5.heap.size ≤ ws.heap.size := hxc.size
    replace bxa := bxa.ext hxc
    replace bxab := bxab.ext hxc
    replace bxte := bxte.ext hxc
    have b8 := blz_mul X PW
    have HSC : Hid (QR ws gm Am cm Lm hv Bv dv Mv (K1 + 200) (mkRat (X * PW) Y)) := qr_mk mm (HXY.out.2.ext (show Ext _ ws from (by repeat' (first | with_reducible exact Ext.refl _ | with_reducible assumption | with_reducible apply Ext.alloc_r | with_reducible apply Ext.drew_r | with_reducible apply Ext.drewN_r | with_reducible refine Ext.trans ?_ ‹Ext _ _›)))) p3 (by omega) (by omega)
    clear mm HP HXY
    go_wp2_with fail
    refine (small_rz (n := 1) (by omega)).mono ?_
    rintro e w7 ⟨gon, Aon, con, Lon, rfl, on, x7⟩
    have szw7 : ws.heap.size ≤ w7.heap.size := x7.size
    replace bxa := bxa.ext x7
    replace bxab := bxab.ext x7
    replace bxte := bxte.ext x7
    replace bxsc := bxsc.ext x7
    have HON := Lib.hid on
    clear on
    go_wp2_with fail
    refine (small_rz (n := 2) (by omega)).mono ?_
    rintro e w8 ⟨gtw, Atw, ctw, Ltw, rfl, tw, x8⟩
    have szw8 : w7.heap.size ≤ w8.heap.size := x8.size
    replace bxa := bxa.ext x8
    replace bxab := bxab.ext x8
    replace bxte := bxte.ext x8
    replace bxsc := bxsc.ext x8
    have HTW := Lib.hid (qr_half0 (HON.out.ext (by repeat' (first | with_reducible exact Ext.refl _ | with_reducible assumption | with_reducible apply Ext.alloc_r | with_reducible apply Ext.drew_r | with_reducible apply Ext.drewN_r | with_reducible refine Ext.trans ?_ ‹Ext _ _›))) tw)
    clear tw
    have ka_0 := bxa.c 0 (.int .i64 g1) rfl
    have ka_1 := bxa.c 1 (.slice A1 L1 c1) rfl
    have ka_2 := bxa.c 2 (.int .i64 h1) rfl
    have ka_3 := bxa.c 3 (.slice B1 M1 d1) rfl
    have ksc_0 := bxsc.c 0 (.int .i64 gm) rfl
    have ksc_1 := bxsc.c 1 (.slice Am Lm cm) rfl
    have ksc_2 := bxsc.c 2 (.int .i64 hv) rfl
    have ksc_3 := bxsc.c 3 (.slice Bv Mv dv) rfl
    have t1a_0 := fun (o0 : Obj) => ((Ext.alloc w8 o0).cell (bxa.c 0 (.int .i64 g1) rfl))
    have t1a_1 := fun (o0 : Obj) => ((Ext.alloc w8 o0).cell (bxa.c 1 (.slice A1 L1 c1) rfl))
    have t1a_2 := fun (o0 : Obj) => ((Ext.alloc w8 o0).cell (bxa.c 2 (.int .i64 h1) rfl))
    have t1a_3 := fun (o0 : Obj) => ((Ext.alloc w8 o0).cell (bxa.c 3 (.slice B1 M1 d1) rfl))
    have t1sc_0 := fun (o0 : Obj) => ((Ext.alloc w8 o0).cell (bxsc.c 0 (.int .i64 gm) rfl))
    have t1sc_1 := fun (o0 : Obj) => ((Ext.alloc w8 o0).cell (bxsc.c 1 (.slice Am Lm cm) rfl))
    have t1sc_2 := fun (o0 : Obj) => ((Ext.alloc w8 o0).cell (bxsc.c 2 (.int .i64 hv) rfl))
    have t1sc_3 := fun (o0 : Obj) => ((Ext.alloc w8 o0).cell (bxsc.c 3 (.slice Bv Mv dv) rfl))
    go_wp2_with fail
    clear ka_0 ka_1 ka_2 ka_3 ksc_0 ksc_1 ksc_2 ksc_3 t1a_0 t1a_1 t1a_2 t1a_3 t1sc_0 t1sc_1 t1sc_2 t1sc_3
    obtain ⟨w9, hw⟩ : ∃ z : World, z = (w8.alloc (.cells #[.int .i64 gon, .slice Aon Lon con, .int .i64 gtw, .slice Atw Ltw ctw] 38)) := ⟨_, rfl⟩
    rw [← hw]
    have x9 : Ext w8 w9 := by rw [hw]; exact (Ext.alloc _ _)
    replace bxa := bxa.ext x9
    replace bxab := bxab.ext x9
    replace bxte := bxte.ext x9
    replace bxsc := bxsc.ext x9
    have bxha : BK w9 (w8.heap.size) 38 #[.int .i64 gon, .slice Aon Lon con, .int .i64 gtw, .slice Atw Ltw ctw] := by rw [hw]; have h5 := (BK.new w8 #[.int .i64 gon, .slice Aon Lon con, .int .i64 gtw, .slice Atw Ltw ctw] 38); simpa only [World.size_alloc] using h5
    have szw9 : w9.heap.size = w8.heap.size + 1 := by rw [hw]; simp only [World.size_alloc]
    clear hw
    refine (qadd_r (HSC.out.ext (by repeat' (first | with_reducible exact Ext.refl _ | with_reducible assumption | with_reducible apply Ext.alloc_r | with_reducible apply Ext.drew_r | with_reducible apply Ext.drewN_r | with_reducible refine Ext.trans ?_ ‹Ext _ _›))) (HTW.out.ext (by repeat' (first | with_reducible exact Ext.refl _ | with_reducible assumption | with_reducible apply Ext.alloc_r | with_reducible apply Ext.drew_r | with_reducible apply Ext.drewN_r | with_reducible refine Ext.trans ?_ ‹Ext _ _›))) (by omega) (by omega)).mono ?_
    rintro e w10 ⟨gad, Aad, cad, Lad, had, Bad, dad, Mad, rfl, ad, x10⟩
    have szw10 : w9.heap.size ≤ w10.heap.size := x10.size
    replace bxa := bxa.ext x10
    replace bxab := bxab.ext x10
    replace bxte := bxte.ext x10
    replace bxsc := bxsc.ext x10
    replace bxha := bxha.ext x10
    have HAD := Lib.hid ad
    clear ad
    go_wp2_with fail
    refine (toRZ HDV.out (qfloor_r (HAD.out.ext (by repeat' (first | with_reducible exact Ext.refl _ | with_reducible assumption | with_reducible apply Ext.alloc_r | with_reducible apply Ext.drew_r | with_reducible apply Ext.drewN_r | with_reducible refine Ext.trans ?_ ‹Ext _ _›))) (by omega))).mono ?_
    rintro e w11 ⟨gn, An, cn, Ln, rfl, n, x11⟩
    have szw11 : w10.heap.size ≤ w11.heap.size := x11.size
    replace bxa := bxa.ext x11
    replace bxab := bxab.ext x11
    replace bxte := bxte.ext x11
    replace bxsc := bxsc.ext x11
    replace bxha := bxha.ext x11
    have HN := Lib.hid n
    have hgn : gn = (decV q1 p).sign := n.sign
    have hln : Ln ≤ 4000 := by rw [n.len]; show bl _ ≤ _; omega
    have HGN := Lib.hid hgn
    clear n hgn HAD HSC HTW HDV
    have ka_0 := bxa.c 0 (.int .i64 g1) rfl
    have ka_1 := bxa.c 1 (.slice A1 L1 c1) rfl
    have ka_2 := bxa.c 2 (.int .i64 h1) rfl
    have ka_3 := bxa.c 3 (.slice B1 M1 d1) rfl
    have t1a_0 := fun (o0 : Obj) => ((Ext.alloc w11 o0).cell (bxa.c 0 (.int .i64 g1) rfl))
    have t1a_1 := fun (o0 : Obj) => ((Ext.alloc w11 o0).cell (bxa.c 1 (.slice A1 L1 c1) rfl))
    have t1a_2 := fun (o0 : Obj) => ((Ext.alloc w11 o0).cell (bxa.c 2 (.int .i64 h1) rfl))
    have t1a_3 := fun (o0 : Obj) => ((Ext.alloc w11 o0).cell (bxa.c 3 (.slice B1 M1 d1) rfl))
    go_wp2_with fail
    clear ka_0 ka_1 ka_2 ka_3 t1a_0 t1a_1 t1a_2 t1a_3
    obtain ⟨w12, hw⟩ : ∃ z : World, z = (w11.alloc (.cells #[.int .i64 gn, .slice An Ln cn] 36)) := ⟨_, rfl⟩
    rw [← hw]
    have x12 : Ext w11 w12 := by rw [hw]; exact (Ext.alloc _ _)
    replace bxa := bxa.ext x12
    replace bxab := bxab.ext x12
    replace bxte := bxte.ext x12
    replace bxsc := bxsc.ext x12
    replace bxha := bxha.ext x12
    have bxn : BK w12 (w11.heap.size) 36 #[.int .i64 gn, .slice An Ln cn] := by rw [hw]; have h5 := (BK.new w11 #[.int .i64 gn, .slice An Ln cn] 36); simpa only [World.size_alloc] using h5
    have szw12 : w12.heap.size = w11.heap.size + 1 := by rw [hw]; simp only [World.size_alloc]
    clear hw
    refine (rFormat_rz (b := 10) (HN.out.ext (by repeat' (first | with_reducible exact Ext.refl _ | with_reducible assumption | with_reducible apply Ext.alloc_r | with_reducible apply Ext.drew_r | with_reducible apply Ext.drewN_r | with_reducible refine Ext.trans ?_ ‹Ext _ _›))) (by omega) (by omega) (by omega)).mono ?_
    rintro e w13 ⟨tf, rfl, f, x13⟩
    have szw13 : w12.heap.size ≤ w13.heap.size := x13.size
    replace bxa := bxa.ext x13
    replace bxab := bxab.ext x13
    replace bxte := bxte.ext x13
    replace bxsc := bxsc.ext x13
    replace bxha := bxha.ext x13
    replace bxn := bxn.ext x13
    have hfs : tf.size ≤ 500000 := by rw [← bs_length, f]; have := fmt_le (b := 10) (by omega) (decV q1 p); have h6 := dl_bl (decV q1 p).natAbs; omega
    have HF : Hid (padT (bs tf) p = padT (fmtL 10 (decV q1 p)) p) := by show _ = _; rw [f]
    have HVN : Hid (0 ≤ decV q1 p) := decV_nn0 q1 p
    clear f
    obtain ⟨wl, hwl⟩ : ∃ z : World, z = w13 := ⟨_, rfl⟩
    rw [← hwl]
    have xwl : Ext w wl := by rw [hwl]; exact (by repeat' (first | with_reducible exact Ext.refl _ | with_reducible assumption | with_reducible apply Ext.alloc_r | with_reducible apply Ext.drew_r | with_reducible apply Ext.drewN_r | with_reducible refine Ext.trans ?_ ‹Ext _ _›))
    have bna := bxa
    have bnn := bxn
    rw [← hwl] at bna bnn
    clear hwl bxa bxn
    skip
    go_wp2_with fail
    go_loopw [10] (fun sv wr => ∃ s : ByteArray, sv = .string s ∧ s.size ≤ 500041 ∧ (s.size ≤ p ∨ s.size ≤ 500000) ∧ Hid (padT (bs s) p = padT (fmtL 10 (decV q1 p)) p) ∧ Ext wl wr) (fun sv _ => p + 1 - (match sv with | .string s => s.size | _ => 0))
    case atStart => exact ⟨tf, rfl, by omega, by omega, HF, Ext.refl _⟩
    case round =>
      clear HF hfs
      obtain ⟨s, rfl, hs1, hs2, HS, hx⟩ := hrel
      have bxa := bna.ext hx
      have bxn := bnn.ext hx
      by_cases hlt : s.size ≤ p
      · have hz : ¬ 9223372036854775807 < 1 + s.size := by omega
        go_wp2_with fail
        go_roundw
        case rel => exact ⟨_, rfl, by rw [ByteArray.size_append]; show 1 + s.size ≤ _; omega, by rw [ByteArray.size_append]; show 1 + s.size ≤ _ ∨ 1 + s.size ≤ _; omega, by show _ = _; rw [bs_append, ← HS.out]; exact padT_step (l := bs s) (by rw [bs_length]; exact hlt), hx⟩
        case measure => show p + 1 - (ByteArray.mk #[48] ++ s).size < p + 1 - s.size; rw [ByteArray.size_append]; show p + 1 - (1 + s.size) < _; omega
      · have HP1 : Hid (bs s = padT (fmtL 10 (decV q1 p)) p) := by show _ = _; rw [← HS.out, padT_no (by rw [bs_length]; omega)]
        clear HS
        have xwr : Ext w wr := xwl.trans hx
        by_cases hp0 : 0 < p
        · obtain ⟨pt, hpt⟩ : ∃ pt : Nat, (s.size : Int) - (p : Int) = (pt : Int) := ⟨s.size - p, by omega⟩
          have hpn : s.size - p = pt := by omega
          have hq1 : (pt : Int) ≤ (s.size : Int) := by omega
          have HFP : Hid (pointT (padT (fmtL 10 (decV q1 p)) p) p = (padT (fmtL 10 (decV q1 p)) p).take pt ++ 46 :: (padT (fmtL 10 (decV q1 p)) p).drop pt) := by
            show _ = _
            unfold pointT
            rw [if_pos hp0, ← HP1.out, bs_length, hpn]
          have hpi : (0 : Int) < (p : Int) := by omega
          have hwp : IntKind.i64.wrap ((s.size : Int) - (p : Int)) = (pt : Int) := by rw [hpt]; exact IntWalk.i64_in _ (by omega)
          clear hpn
          go_wp2_with fail
          go_quiet (fail)
          rename_i nq
          obtain ⟨wq, hw⟩ : ∃ z : World, z = World.drewN wr nq := ⟨_, rfl⟩
          rw [← hw]
          have xq : Ext wr wq := by rw [hw]; exact Qt.ext ⟨_, rfl⟩
          clear hw
          replace bxa := bxa.ext xq
          replace bxn := bxn.ext xq
          obtain ⟨t2, ht2⟩ : ∃ z, z = s.extract 0 pt ++ { data := #[46] } ++ s.extract pt s.size := ⟨_, rfl⟩
          rw [← ht2]
          have HT2 : Hid (bs t2 = pointT (padT (fmtL 10 (decV q1 p)) p) p) := by
            show _ = _
            rw [ht2, HFP.out, bs_append, bs_append, bs_take, bs_drop, HP1.out, List.append_assoc]
            rfl
          have ht2s : t2.size ≤ 2000000 := by
            rw [ht2, ByteArray.size_append, ByteArray.size_append, ByteArray.size_extract, ByteArray.size_extract]
            have h5 : (ByteArray.mk #[46]).size = 1 := rfl
            omega
          clear ht2 HFP
          have hgb := sign_bd (decV q1 p)
          rw [← HGN.out] at hgb
          by_cases hgp : gn > 0
          · have HC : Hid (q1.num < 0 ∧ decV q1 p ≠ 0) := ⟨HSG.out, fun h => by rw [HGN.out, h] at hgp; exact absurd hgp (by decide)⟩
            have hz1 : ¬ 9223372036854775807 < 1 + t2.size := by omega
            have xz : Ext w wq := (by repeat' (first | with_reducible exact Ext.refl _ | with_reducible assumption | with_reducible apply Ext.alloc_r | with_reducible apply Ext.drew_r | with_reducible apply Ext.drewN_r | with_reducible refine Ext.trans ?_ ‹Ext _ _›))
            have ka_0 := bxa.c 0 (.int .i64 g1) rfl
            have ka_1 := bxa.c 1 (.slice A1 L1 c1) rfl
            have ka_2 := bxa.c 2 (.int .i64 h1) rfl
            have ka_3 := bxa.c 3 (.slice B1 M1 d1) rfl
            have kn_0 := bxn.c 0 (.int .i64 gn) rfl
            have kn_1 := bxn.c 1 (.slice An Ln cn) rfl
            go_wp2_with fail
            clear ka_0 ka_1 ka_2 ka_3 kn_0 kn_1
            go_ret
            refine ⟨_, rfl, ?_, xz⟩
            unfold decT
            rw [if_pos HC.out, bs_append, HT2.out]
            rfl
          · have HC : Hid (¬ (q1.num < 0 ∧ decV q1 p ≠ 0)) := fun h => hgp (by rw [HGN.out, Int.sign_eq_one_of_pos (by have h5 := HVN.out; have h6 := h.2; omega)]; omega)
            have xz : Ext w wq := (by repeat' (first | with_reducible exact Ext.refl _ | with_reducible assumption | with_reducible apply Ext.alloc_r | with_reducible apply Ext.drew_r | with_reducible apply Ext.drewN_r | with_reducible refine Ext.trans ?_ ‹Ext _ _›))
            have ka_0 := bxa.c 0 (.int .i64 g1) rfl
            have ka_1 := bxa.c 1 (.slice A1 L1 c1) rfl
            have ka_2 := bxa.c 2 (.int .i64 h1) rfl
            have ka_3 := bxa.c 3 (.slice B1 M1 d1) rfl
            have kn_0 := bxn.c 0 (.int .i64 gn) rfl
            have kn_1 := bxn.c 1 (.slice An Ln cn) rfl
            go_wp2_with fail
            clear ka_0 ka_1 ka_2 ka_3 kn_0 kn_1
            go_ret
            refine ⟨_, rfl, ?_, xz⟩
            unfold decT
            rw [if_neg HC.out, List.nil_append, HT2.out]
        · have HT2 : Hid (bs s = pointT (padT (fmtL 10 (decV q1 p)) p) p) := by
            show _ = _
            unfold pointT
            rw [if_neg hp0]
            exact HP1.out
          have hgb := sign_bd (decV q1 p)
          rw [← HGN.out] at hgb
          by_cases hgp : gn > 0
          · have HC : Hid (q1.num < 0 ∧ decV q1 p ≠ 0) := ⟨HSG.out, fun h => by rw [HGN.out, h] at hgp; exact absurd hgp (by decide)⟩
            have hz1 : ¬ 9223372036854775807 < 1 + s.size := by omega
            have xz : Ext w wr := (by repeat' (first | with_reducible exact Ext.refl _ | with_reducible assumption | with_reducible apply Ext.alloc_r | with_reducible apply Ext.drew_r | with_reducible apply Ext.drewN_r | with_reducible refine Ext.trans ?_ ‹Ext _ _›))
            have ka_0 := bxa.c 0 (.int .i64 g1) rfl
            have ka_1 := bxa.c 1 (.slice A1 L1 c1) rfl
            have ka_2 := bxa.c 2 (.int .i64 h1) rfl
            have ka_3 := bxa.c 3 (.slice B1 M1 d1) rfl
            have kn_0 := bxn.c 0 (.int .i64 gn) rfl
            have kn_1 := bxn.c 1 (.slice An Ln cn) rfl
            go_wp2_with fail
            clear ka_0 ka_1 ka_2 ka_3 kn_0 kn_1
            go_ret
            refine ⟨_, rfl, ?_, xz⟩
            unfold decT
            rw [if_pos HC.out, bs_append, HT2.out]
            rfl
          · have HC : Hid (¬ (q1.num < 0 ∧ decV q1 p ≠ 0)) := fun h => hgp (by rw [HGN.out, Int.sign_eq_one_of_pos (by have h5 := HVN.out; have h6 := h.2; omega)]; omega)
            have xz : Ext w wr := (by repeat' (first | with_reducible exact Ext.refl _ | with_reducible assumption | with_reducible apply Ext.alloc_r | with_reducible apply Ext.drew_r | with_reducible apply Ext.drewN_r | with_reducible refine Ext.trans ?_ ‹Ext _ _›))
            have ka_0 := bxa.c 0 (.int .i64 g1) rfl
            have ka_1 := bxa.c 1 (.slice A1 L1 c1) rfl
            have ka_2 := bxa.c 2 (.int .i64 h1) rfl
            have ka_3 := bxa.c 3 (.slice B1 M1 d1) rfl
            have kn_0 := bxn.c 0 (.int .i64 gn) rfl
            have kn_1 := bxn.c 1 (.slice An Ln cn) rfl
            go_wp2_with fail
            clear ka_0 ka_1 ka_2 ka_3 kn_0 kn_1
            go_ret
            refine ⟨_, rfl, ?_, xz⟩
            unfold decT
            rw [if_neg HC.out, List.nil_append, HT2.out]
set_option maxHeartbeats 4000000 in
set_option maxRecDepth 100000 in
theorem qdec_pos {w : World} {g1 h1 : Int} {A1 B1 : Option Addr} {c1 d1 L1 M1 K1 : Nat} {q1 : Rat} (z1 : QR w g1 A1 c1 L1 h1 B1 d1 M1 K1 q1) (hs1 : K1 ≤ 1000) {p : Nat} (hp : p ≤ 40) (hsg : ¬ q1.num < 0) :
    Calls Try.prog 15 #[Value.agg #[Value.int .i64 g1, Value.slice A1 L1 c1, Value.int .i64 h1, Value.slice B1 M1 d1], .int .i64 p] w (RetS w (decT q1 p)) := by
  have hg1 : g1 = q1.num.sign := z1.sign
  have hg : ¬ g1 < 0 := by rw [hg1]; rcases sign_cases q1.num with ⟨h5, h6⟩ | ⟨h5, h6⟩ | ⟨h5, h6⟩ <;> omega
  have HAQ : Hid (q1 = absQ q1) := by show _ = _; unfold absQ; rw [if_neg hsg]
  have HSG := Lib.hid hsg
  have HZ1 := Lib.hid z1
  have a1 : ∀ k, k ≤ p → bl ((10 : Int) ^ k).natAbs ≤ 100000 := fun k hk => by have := bl_ten k; omega
  have HA1 := Lib.hid a1
  have a2 := bl_ten p
  obtain ⟨PW, hPW⟩ : ∃ PW : Int, (10 : Int) ^ p = PW := ⟨_, rfl⟩
  rw [hPW] at a2
  have HPW := Lib.hid hPW
  clear z1 hg1 hsg a1 hPW
  go_enter Try.func15, Try.ntmps15
  go_wp2_with fail
  obtain ⟨w0, hw0⟩ : ∃ z : World, z = ((w.alloc (.cells #[.int .i64 g1, .slice A1 L1 c1, .int .i64 h1, .slice B1 M1 d1] 38)).alloc (.cells #[.int .i64 g1, .slice A1 L1 c1, .int .i64 h1, .slice B1 M1 d1] 38)) := ⟨_, rfl⟩
  rw [← hw0]
  have bxa : BK w0 (w.heap.size) 38 #[.int .i64 g1, .slice A1 L1 c1, .int .i64 h1, .slice B1 M1 d1] := by rw [hw0]; have h5 := (BK.ext (BK.new w #[.int .i64 g1, .slice A1 L1 c1, .int .i64 h1, .slice B1 M1 d1] 38) (Ext.alloc _ (.cells #[.int .i64 g1, .slice A1 L1 c1, .int .i64 h1, .slice B1 M1 d1] 38))); simpa only [World.size_alloc] using h5
  have bxab : BK w0 (w.heap.size + 1) 38 #[.int .i64 g1, .slice A1 L1 c1, .int .i64 h1, .slice B1 M1 d1] := by rw [hw0]; have h5 := (BK.new (w.alloc (.cells #[.int .i64 g1, .slice A1 L1 c1, .int .i64 h1, .slice B1 M1 d1] 38)) #[.int .i64 g1, .slice A1 L1 c1, .int .i64 h1, .slice B1 M1 d1] 38); simpa only [World.size_alloc] using h5
  have hszw0 : w0.heap.size = w.heap.size + 1 + 1 := by rw [hw0]; simp only [World.size_alloc]
  have xw0 : Ext w w0 := by rw [hw0]; exact ((Ext.alloc _ _).trans (Ext.alloc _ _))
  clear hw0
  have HAB : Hid (QR w g1 A1 c1 L1 h1 B1 d1 M1 K1 (absQ q1)) := by show QR _ _ _ _ _ _ _ _ _ _ _; rw [← HAQ.out]; exact HZ1.out
  obtain ⟨X, Y, p1, p2, p3, p4, p5, p6⟩ := HAB.out.ex
  have HXY := Lib.hid (And.intro p1 p2)
  have HDV := Lib.hid (decV_parts (p := p) p4)
  rw [HPW.out] at HDV
  have bdv := bl_decV p4 p3 p5 p6 hp
  clear p1 p2 p4 HAB
  refine (small_rz (n := 10) (by omega)).mono ?_
  rintro e w1 ⟨gt, At, ct, Lt, rfl, t, x1⟩
  have szw1 : w0.heap.size ≤ w1.heap.size := x1.size
  replace bxa := bxa.ext x1
  replace bxab := bxab.ext x1
  have HT := Lib.hid t
  clear t
  have u10 : bl (10 : Int).natAbs ≤ 4 := bl_of_lt (by show 10 < _; omega)
  have ka_0 := bxa.c 0 (.int .i64 g1) rfl
  have ka_1 := bxa.c 1 (.slice A1 L1 c1) rfl
  have ka_2 := bxa.c 2 (.int .i64 h1) rfl
  have ka_3 := bxa.c 3 (.slice B1 M1 d1) rfl
  have kab_0 := bxab.c 0 (.int .i64 g1) rfl
  have kab_1 := bxab.c 1 (.slice A1 L1 c1) rfl
  have kab_2 := bxab.c 2 (.int .i64 h1) rfl
  have kab_3 := bxab.c 3 (.slice B1 M1 d1) rfl
  go_wp2_with fail
  clear ka_0 ka_1 ka_2 ka_3 kab_0 kab_1 kab_2 kab_3
  refine (toRZ HPW.out (rpow_rz (n := p) (HT.out.ext (by repeat' (first | with_reducible exact Ext.refl _ | with_reducible assumption | with_reducible apply Ext.alloc_r | with_reducible apply Ext.drew_r | with_reducible apply Ext.drewN_r | with_reducible refine Ext.trans ?_ ‹Ext _ _›))) (by omega) HA1.out (by omega))).mono ?_
  rintro e w2 ⟨gpw, Apw, cpw, Lpw, rfl, pw, x2⟩
  have szw2 : w1.heap.size ≤ w2.heap.size := x2.size
  replace bxa := bxa.ext x2
  replace bxab := bxab.ext x2
  have HP := Lib.hid pw
  clear pw HT
  have ka_0 := bxa.c 0 (.int .i64 g1) rfl
  have ka_1 := bxa.c 1 (.slice A1 L1 c1) rfl
  have ka_2 := bxa.c 2 (.int .i64 h1) rfl
  have ka_3 := bxa.c 3 (.slice B1 M1 d1) rfl
  have kab_0 := bxab.c 0 (.int .i64 g1) rfl
  have kab_1 := bxab.c 1 (.slice A1 L1 c1) rfl
  have kab_2 := bxab.c 2 (.int .i64 h1) rfl
  have kab_3 := bxab.c 3 (.slice B1 M1 d1) rfl
  have t1a_0 := fun (o0 : Obj) => ((Ext.alloc w2 o0).cell (bxa.c 0 (.int .i64 g1) rfl))
  have t1a_1 := fun (o0 : Obj) => ((Ext.alloc w2 o0).cell (bxa.c 1 (.slice A1 L1 c1) rfl))
  have t1a_2 := fun (o0 : Obj) => ((Ext.alloc w2 o0).cell (bxa.c 2 (.int .i64 h1) rfl))
  have t1a_3 := fun (o0 : Obj) => ((Ext.alloc w2 o0).cell (bxa.c 3 (.slice B1 M1 d1) rfl))
  have t1ab_0 := fun (o0 : Obj) => ((Ext.alloc w2 o0).cell (bxab.c 0 (.int .i64 g1) rfl))
  have t1ab_1 := fun (o0 : Obj) => ((Ext.alloc w2 o0).cell (bxab.c 1 (.slice A1 L1 c1) rfl))
  have t1ab_2 := fun (o0 : Obj) => ((Ext.alloc w2 o0).cell (bxab.c 2 (.int .i64 h1) rfl))
  have t1ab_3 := fun (o0 : Obj) => ((Ext.alloc w2 o0).cell (bxab.c 3 (.slice B1 M1 d1) rfl))
  go_wp2_with fail
  clear ka_0 ka_1 ka_2 ka_3 kab_0 kab_1 kab_2 kab_3 t1a_0 t1a_1 t1a_2 t1a_3 t1ab_0 t1ab_1 t1ab_2 t1ab_3
  obtain ⟨w3, hw⟩ : ∃ z : World, z = (w2.alloc (.cells #[.int .i64 gpw, .slice Apw Lpw cpw] 36)) := ⟨_, rfl⟩
  rw [← hw]
  have x3 : Ext w2 w3 := by rw [hw]; exact (Ext.alloc _ _)
  replace bxa := bxa.ext x3
  replace bxab := bxab.ext x3
  have bxte : BK w3 (w2.heap.size) 36 #[.int .i64 gpw, .slice Apw Lpw cpw] := by rw [hw]; have h5 := (BK.new w2 #[.int .i64 gpw, .slice Apw Lpw cpw] 36); simpa only [World.size_alloc] using h5
  have szw3 : w3.heap.size = w2.heap.size + 1 := by rw [hw]; simp only [World.size_alloc]
  clear hw
  have kab_0 := bxab.c 0 (.int .i64 g1) rfl
  have kab_1 := bxab.c 1 (.slice A1 L1 c1) rfl
  have kab_2 := bxab.c 2 (.int .i64 h1) rfl
  have kab_3 := bxab.c 3 (.slice B1 M1 d1) rfl
  have kte_0 := bxte.c 0 (.int .i64 gpw) rfl
  have kte_1 := bxte.c 1 (.slice Apw Lpw cpw) rfl
  have HSZ := Lib.hid (And.intro True.intro (And.intro hszw0 (And.intro szw1 (And.intro szw2 szw3))))
  clear hszw0 szw1 szw2 szw3
  go_wp2_with fail
  go_cut [7] (fun s7 wx => PutQK w3 wx (X * PW) (.int .i64 h1) (.slice B1 M1 d1) s7)
  case first =>
    have HK : Hid (∀ w', Ext w3 w' → Ext w3 w' ∧ w'.cell? ⟨w.heap.size + 1, 0, none⟩ = some (.int .i64 g1) ∧ w'.cell? ⟨w.heap.size + 1, 1, none⟩ = some (.slice A1 L1 c1) ∧ w'.cell? ⟨w.heap.size + 1, 2, none⟩ = some (.int .i64 h1) ∧ w'.cell? ⟨w.heap.size + 1, 3, none⟩ = some (.slice B1 M1 d1) ∧ w'.cell? ⟨w2.heap.size, 0, none⟩ = some (.int .i64 gpw) ∧ w'.cell? ⟨w2.heap.size, 1, none⟩ = some (.slice Apw Lpw cpw)) := fun w' hk => ⟨hk, hk.cell kab_0, hk.cell kab_1, hk.cell kab_2, hk.cell kab_3, hk.cell kte_0, hk.cell kte_1⟩
    first
    | go_region_held3 (fun w' => Ext w3 w' ∧ w'.cell? ⟨w.heap.size + 1, 0, none⟩ = some (.int .i64 g1) ∧ w'.cell? ⟨w.heap.size + 1, 1, none⟩ = some (.slice A1 L1 c1) ∧ w'.cell? ⟨w.heap.size + 1, 2, none⟩ = some (.int .i64 h1) ∧ w'.cell? ⟨w.heap.size + 1, 3, none⟩ = some (.slice B1 M1 d1) ∧ w'.cell? ⟨w2.heap.size, 0, none⟩ = some (.int .i64 gpw) ∧ w'.cell? ⟨w2.heap.size, 1, none⟩ = some (.slice Apw Lpw cpw))
        ((with_reducible refine HK.out _ ?_; (repeat' (first | with_reducible exact Ext.refl _ | with_reducible assumption | with_reducible apply Ext.alloc_r | with_reducible apply Ext.drew_r | with_reducible apply Ext.drewN_r | with_reducible apply Ext.set_r | with_reducible exact Nat.le_refl _ | omega | with_reducible refine Ext.trans ?_ ‹Ext _ _›))))
        (first
          | (go_at_call 67; refine (mul_rz (HXY.out.1.ext (by repeat' (first | with_reducible exact Ext.refl _ | with_reducible assumption | with_reducible apply Ext.alloc_r | with_reducible apply Ext.drew_r | with_reducible apply Ext.drewN_r | with_reducible refine Ext.trans ?_ ‹Ext _ _›))) (HP.out.ext (by repeat' (first | with_reducible exact Ext.refl _ | with_reducible assumption | with_reducible apply Ext.alloc_r | with_reducible apply Ext.drew_r | with_reducible apply Ext.drewN_r | with_reducible refine Ext.trans ?_ ‹Ext _ _›))) (by omega) (by omega)).mono ?_; rintro e w4 ⟨gm, Am, cm, Lm, rfl, m, x4⟩; (have zs4 := x4.size); (try simp only [World.size_alloc, World.size_drew] at zs4); (try ((with_reducible have h4_0 := box_ext (vs := #[.int .i64 0, .slice none 0 0, .int .i64 0, .slice none 0 0]) ((Ext.drew _).trans x4)); have h4_0c0 := (h4_0.1 0 (.int .i64 0) rfl).1; have h4_0f0 := (h4_0.1 0 (.int .i64 0) rfl).2; have h4_0c1 := (h4_0.1 1 (.slice none 0 0) rfl).1; have h4_0f1 := (h4_0.1 1 (.slice none 0 0) rfl).2; have h4_0c2 := (h4_0.1 2 (.int .i64 0) rfl).1; have h4_0f2 := (h4_0.1 2 (.int .i64 0) rfl).2; have h4_0c3 := (h4_0.1 3 (.slice none 0 0) rfl).1; have h4_0f3 := (h4_0.1 3 (.slice none 0 0) rfl).2; have h4_0b := h4_0.2.1; have h4_0z := h4_0.2.2; (try simp only [World.size_alloc] at h4_0b h4_0z h4_0c0 h4_0f0 h4_0c1 h4_0f1 h4_0c2 h4_0f2 h4_0c3 h4_0f3); have h4_0m := Nat.ne_of_lt h4_0z; have h4_0n := Nat.ne_of_gt h4_0z; clear h4_0))))
    | fail
    all_goals (clear HK; go_wp2_with fail; go_meet)
    all_goals
      refine PutQK.mk (g := gm) (A := Am) (c := cm) (L := Lm) ?_ ?_ (m.kept ?_) ?_
      · (first | exact Nat.le_refl _ | omega | (simp only [World.size_alloc, World.size_drew]; omega) | (simp; omega))
      · (repeat' (first | with_reducible assumption | with_reducible apply BK.set4q | with_reducible apply BK.set2z | (with_reducible apply BK.far2z; (case hne => (first | assumption | omega | (simp; done) | (simp only [World.size_alloc, World.size_drew]; omega)))) | (with_reducible apply BK.far2z; (case hne => (first | assumption | omega | (simp; done) | (simp only [World.size_alloc, World.size_drew]; omega)))) | (with_reducible apply BK.new_s; (first | rfl | (simp; done))) | with_reducible apply BK.alloc_s | with_reducible apply BK.drew_s | with_reducible refine BK.ext ?_ ‹Ext _ _›))
      · (repeat' (first | with_reducible exact Kept.refl _ | with_reducible apply Kept.alloc_r | with_reducible apply Kept.drew_r | (with_reducible apply Kept.setQ; (case hb => ((repeat' (first | with_reducible assumption | with_reducible apply IsBox.set_ | (with_reducible apply IsBox.new; (first | (with_reducible rfl) | simp); done) | with_reducible apply IsBox.alloc_ | with_reducible apply IsBox.drew_ | with_reducible refine IsBox.ext ?_ ‹Ext _ _›)); done))) | (with_reducible apply Kept.setZ; (case hb => ((repeat' (first | with_reducible assumption | with_reducible apply IsBox.set_ | (with_reducible apply IsBox.new; (first | (with_reducible rfl) | simp); done) | with_reducible apply IsBox.alloc_ | with_reducible apply IsBox.drew_ | with_reducible refine IsBox.ext ?_ ‹Ext _ _›)); done))) | with_reducible refine Kept.trans ?_ (Ext.kept ‹Ext _ _›)))
      · (repeat' (first | with_reducible exact Ext.refl _ | with_reducible assumption | with_reducible apply Ext.alloc_r | with_reducible apply Ext.drew_r | with_reducible apply Ext.drewN_r | with_reducible apply Ext.set_r | with_reducible exact Nat.le_refl _ | omega | with_reducible refine Ext.trans ?_ ‹Ext _ _›))
  case rest =>
    obtain ⟨hszw0, szw1, szw2, szw3⟩ := HSZ.out.2
    clear kab_0 kab_1 kab_2 kab_3 kte_0 kte_1
    obtain ⟨b7, gm, Am, cm, Lm, rfl, hb7, bxsc, mm, hxc⟩ := hcut
    obtain ⟨ws, rfl⟩ : ∃ z : World, z = wc := ⟨_, rfl⟩
    have szws : w3.heap.size ≤ ws.heap.size := hxc.size
    replace bxa := bxa.ext hxc
    replace bxab := bxab.ext hxc
    replace bxte := bxte.ext hxc
    have b8 := blz_mul X PW
    have HSC : Hid (QR ws gm Am cm Lm h1 B1 d1 M1 (K1 + 200) (mkRat (X * PW) Y)) := qr_mk mm (HXY.out.2.ext (show Ext _ ws from (by repeat' (first | with_reducible exact Ext.refl _ | with_reducible assumption | with_reducible apply Ext.alloc_r | with_reducible apply Ext.drew_r | with_reducible apply Ext.drewN_r | with_reducible refine Ext.trans ?_ ‹Ext _ _›)))) p3 (by omega) (by omega)
    clear mm HP HXY
    go_wp2_with fail
    refine (small_rz (n := 1) (by omega)).mono ?_
    rintro e w5 ⟨gon, Aon, con, Lon, rfl, on, x5⟩
    have szw5 : ws.heap.size ≤ w5.heap.size := x5.size
    replace bxa := bxa.ext x5
    replace bxab := bxab.ext x5
    replace bxte := bxte.ext x5
    replace bxsc := bxsc.ext x5
    have HON := Lib.hid on
    clear on
    go_wp2_with fail
    refine (small_rz (n := 2) (by omega)).mono ?_
    rintro e w6 ⟨gtw, Atw, ctw, Ltw, rfl, tw, x6⟩
    have szw6 : w5.heap.size ≤ w6.heap.size := x6.size
    replace bxa := bxa.ext x6
    replace bxab := bxab.ext x6
    replace bxte := bxte.ext x6
    replace bxsc := bxsc.ext x6
    have HTW := Lib.hid (qr_half0 (HON.out.ext (by repeat' (first | with_reducible exact Ext.refl _ | with_reducible assumption | with_reducible apply Ext.alloc_r | with_reducible apply Ext.drew_r | with_reducible apply Ext.drewN_r | with_reducible refine Ext.trans ?_ ‹Ext _ _›))) tw)
    clear tw
    have ka_0 := bxa.c 0 (.int .i64 g1) rfl
    have ka_1 := bxa.c 1 (.slice A1 L1 c1) rfl
    have ka_2 := bxa.c 2 (.int .i64 h1) rfl
    have ka_3 := bxa.c 3 (.slice B1 M1 d1) rfl
    have ksc_0 := bxsc.c 0 (.int .i64 gm) rfl
    have ksc_1 := bxsc.c 1 (.slice Am Lm cm) rfl
    have ksc_2 := bxsc.c 2 (.int .i64 h1) rfl
    have ksc_3 := bxsc.c 3 (.slice B1 M1 d1) rfl
    have t1a_0 := fun (o0 : Obj) => ((Ext.alloc w6 o0).cell (bxa.c 0 (.int .i64 g1) rfl))
    have t1a_1 := fun (o0 : Obj) => ((Ext.alloc w6 o0).cell (bxa.c 1 (.slice A1 L1 c1) rfl))
    have t1a_2 := fun (o0 : Obj) => ((Ext.alloc w6 o0).cell (bxa.c 2 (.int .i64 h1) rfl))
    have t1a_3 := fun (o0 : Obj) => ((Ext.alloc w6 o0).cell (bxa.c 3 (.slice B1 M1 d1) rfl))
    have t1sc_0 := fun (o0 : Obj) => ((Ext.alloc w6 o0).cell (bxsc.c 0 (.int .i64 gm) rfl))
    have t1sc_1 := fun (o0 : Obj) => ((Ext.alloc w6 o0).cell (bxsc.c 1 (.slice Am Lm cm) rfl))
    have t1sc_2 := fun (o0 : Obj) => ((Ext.alloc w6 o0).cell (bxsc.c 2 (.int .i64 h1) rfl))
    have t1sc_3 := fun (o0 : Obj) => ((Ext.alloc w6 o0).cell (bxsc.c 3 (.slice B1 M1 d1) rfl))
    go_wp2_with fail
    clear ka_0 ka_1 ka_2 ka_3 ksc_0 ksc_1 ksc_2 ksc_3 t1a_0 t1a_1 t1a_2 t1a_3 t1sc_0 t1sc_1 t1sc_2 t1sc_3
    obtain ⟨w7, hw⟩ : ∃ z : World, z = (w6.alloc (.cells #[.int .i64 gon, .slice Aon Lon con, .int .i64 gtw, .slice Atw Ltw ctw] 38)) := ⟨_, rfl⟩
    rw [← hw]
    have x7 : Ext w6 w7 := by rw [hw]; exact (Ext.alloc _ _)
    replace bxa := bxa.ext x7
    replace bxab := bxab.ext x7
    replace bxte := bxte.ext x7
    replace bxsc := bxsc.ext x7
    have bxha : BK w7 (w6.heap.size) 38 #[.int .i64 gon, .slice Aon Lon con, .int .i64 gtw, .slice Atw Ltw ctw] := by rw [hw]; have h5 := (BK.new w6 #[.int .i64 gon, .slice Aon Lon con, .int .i64 gtw, .slice Atw Ltw ctw] 38); simpa only [World.size_alloc] using h5
    have szw7 : w7.heap.size = w6.heap.size + 1 := by rw [hw]; simp only [World.size_alloc]
    clear hw
    refine (qadd_r (HSC.out.ext (by repeat' (first | with_reducible exact Ext.refl _ | with_reducible assumption | with_reducible apply Ext.alloc_r | with_reducible apply Ext.drew_r | with_reducible apply Ext.drewN_r | with_reducible refine Ext.trans ?_ ‹Ext _ _›))) (HTW.out.ext (by repeat' (first | with_reducible exact Ext.refl _ | with_reducible assumption | with_reducible apply Ext.alloc_r | with_reducible apply Ext.drew_r | with_reducible apply Ext.drewN_r | with_reducible refine Ext.trans ?_ ‹Ext _ _›))) (by omega) (by omega)).mono ?_
    rintro e w8 ⟨gad, Aad, cad, Lad, had, Bad, dad, Mad, rfl, ad, x8⟩
    have szw8 : w7.heap.size ≤ w8.heap.size := x8.size
    replace bxa := bxa.ext x8
    replace bxab := bxab.ext x8
    replace bxte := bxte.ext x8
    replace bxsc := bxsc.ext x8
    replace bxha := bxha.ext x8
    have HAD := Lib.hid ad
    clear ad
    go_wp2_with fail
    refine (toRZ HDV.out (qfloor_r (HAD.out.ext (by repeat' (first | with_reducible exact Ext.refl _ | with_reducible assumption | with_reducible apply Ext.alloc_r | with_reducible apply Ext.drew_r | with_reducible apply Ext.drewN_r | with_reducible refine Ext.trans ?_ ‹Ext _ _›))) (by omega))).mono ?_
    rintro e w9 ⟨gn, An, cn, Ln, rfl, n, x9⟩
    have szw9 : w8.heap.size ≤ w9.heap.size := x9.size
    replace bxa := bxa.ext x9
    replace bxab := bxab.ext x9
    replace bxte := bxte.ext x9
    replace bxsc := bxsc.ext x9
    replace bxha := bxha.ext x9
    have HN := Lib.hid n
    have hgn : gn = (decV q1 p).sign := n.sign
    have hln : Ln ≤ 4000 := by rw [n.len]; show bl _ ≤ _; omega
    have HGN := Lib.hid hgn
    clear n hgn HAD HSC HTW HDV
    have ka_0 := bxa.c 0 (.int .i64 g1) rfl
    have ka_1 := bxa.c 1 (.slice A1 L1 c1) rfl
    have ka_2 := bxa.c 2 (.int .i64 h1) rfl
    have ka_3 := bxa.c 3 (.slice B1 M1 d1) rfl
    have t1a_0 := fun (o0 : Obj) => ((Ext.alloc w9 o0).cell (bxa.c 0 (.int .i64 g1) rfl))
    have t1a_1 := fun (o0 : Obj) => ((Ext.alloc w9 o0).cell (bxa.c 1 (.slice A1 L1 c1) rfl))
    have t1a_2 := fun (o0 : Obj) => ((Ext.alloc w9 o0).cell (bxa.c 2 (.int .i64 h1) rfl))
    have t1a_3 := fun (o0 : Obj) => ((Ext.alloc w9 o0).cell (bxa.c 3 (.slice B1 M1 d1) rfl))
    go_wp2_with fail
    clear ka_0 ka_1 ka_2 ka_3 t1a_0 t1a_1 t1a_2 t1a_3
    obtain ⟨w10, hw⟩ : ∃ z : World, z = (w9.alloc (.cells #[.int .i64 gn, .slice An Ln cn] 36)) := ⟨_, rfl⟩
    rw [← hw]
    have x10 : Ext w9 w10 := by rw [hw]; exact (Ext.alloc _ _)
    replace bxa := bxa.ext x10
    replace bxab := bxab.ext x10
    replace bxte := bxte.ext x10
    replace bxsc := bxsc.ext x10
    replace bxha := bxha.ext x10
    have bxn : BK w10 (w9.heap.size) 36 #[.int .i64 gn, .slice An Ln cn] := by rw [hw]; have h5 := (BK.new w9 #[.int .i64 gn, .slice An Ln cn] 36); simpa only [World.size_alloc] using h5
    have szw10 : w10.heap.size = w9.heap.size + 1 := by rw [hw]; simp only [World.size_alloc]
    clear hw
    refine (rFormat_rz (b := 10) (HN.out.ext (by repeat' (first | with_reducible exact Ext.refl _ | with_reducible assumption | with_reducible apply Ext.alloc_r | with_reducible apply Ext.drew_r | with_reducible apply Ext.drewN_r | with_reducible refine Ext.trans ?_ ‹Ext _ _›))) (by omega) (by omega) (by omega)).mono ?_
    rintro e w11 ⟨tf, rfl, f, x11⟩
    have szw11 : w10.heap.size ≤ w11.heap.size := x11.size
    replace bxa := bxa.ext x11
    replace bxab := bxab.ext x11
    replace bxte := bxte.ext x11
    replace bxsc := bxsc.ext x11
    replace bxha := bxha.ext x11
    replace bxn := bxn.ext x11
    have hfs : tf.size ≤ 500000 := by rw [← bs_length, f]; have := fmt_le (b := 10) (by omega) (decV q1 p); have h6 := dl_bl (decV q1 p).natAbs; omega
    have HF : Hid (padT (bs tf) p = padT (fmtL 10 (decV q1 p)) p) := by show _ = _; rw [f]
    have HVN : Hid (0 ≤ decV q1 p) := decV_nn0 q1 p
    clear f
    obtain ⟨wl, hwl⟩ : ∃ z : World, z = w11 := ⟨_, rfl⟩
    rw [← hwl]
    have xwl : Ext w wl := by rw [hwl]; exact (by repeat' (first | with_reducible exact Ext.refl _ | with_reducible assumption | with_reducible apply Ext.alloc_r | with_reducible apply Ext.drew_r | with_reducible apply Ext.drewN_r | with_reducible refine Ext.trans ?_ ‹Ext _ _›))
    have bna := bxa
    have bnn := bxn
    rw [← hwl] at bna bnn
    clear hwl bxa bxn
    skip
    go_wp2_with fail
    go_loopw [10] (fun sv wr => ∃ s : ByteArray, sv = .string s ∧ s.size ≤ 500041 ∧ (s.size ≤ p ∨ s.size ≤ 500000) ∧ Hid (padT (bs s) p = padT (fmtL 10 (decV q1 p)) p) ∧ Ext wl wr) (fun sv _ => p + 1 - (match sv with | .string s => s.size | _ => 0))
    case atStart => exact ⟨tf, rfl, by omega, by omega, HF, Ext.refl _⟩
    case round =>
      clear HF hfs
      obtain ⟨s, rfl, hs1, hs2, HS, hx⟩ := hrel
      have bxa := bna.ext hx
      have bxn := bnn.ext hx
      by_cases hlt : s.size ≤ p
      · have hz : ¬ 9223372036854775807 < 1 + s.size := by omega
        go_wp2_with fail
        go_roundw
        case rel => exact ⟨_, rfl, by rw [ByteArray.size_append]; show 1 + s.size ≤ _; omega, by rw [ByteArray.size_append]; show 1 + s.size ≤ _ ∨ 1 + s.size ≤ _; omega, by show _ = _; rw [bs_append, ← HS.out]; exact padT_step (l := bs s) (by rw [bs_length]; exact hlt), hx⟩
        case measure => show p + 1 - (ByteArray.mk #[48] ++ s).size < p + 1 - s.size; rw [ByteArray.size_append]; show p + 1 - (1 + s.size) < _; omega
      · have HP1 : Hid (bs s = padT (fmtL 10 (decV q1 p)) p) := by show _ = _; rw [← HS.out, padT_no (by rw [bs_length]; omega)]
        clear HS
        have xwr : Ext w wr := xwl.trans hx
        by_cases hp0 : 0 < p
        · obtain ⟨pt, hpt⟩ : ∃ pt : Nat, (s.size : Int) - (p : Int) = (pt : Int) := ⟨s.size - p, by omega⟩
          have hpn : s.size - p = pt := by omega
          have hq1 : (pt : Int) ≤ (s.size : Int) := by omega
          have HFP : Hid (pointT (padT (fmtL 10 (decV q1 p)) p) p = (padT (fmtL 10 (decV q1 p)) p).take pt ++ 46 :: (padT (fmtL 10 (decV q1 p)) p).drop pt) := by
            show _ = _
            unfold pointT
            rw [if_pos hp0, ← HP1.out, bs_length, hpn]
          have hpi : (0 : Int) < (p : Int) := by omega
          have hwp : IntKind.i64.wrap ((s.size : Int) - (p : Int)) = (pt : Int) := by rw [hpt]; exact IntWalk.i64_in _ (by omega)
          clear hpn
          go_wp2_with fail
          go_quiet (fail)
          rename_i nq
          obtain ⟨wq, hw⟩ : ∃ z : World, z = World.drewN wr nq := ⟨_, rfl⟩
          rw [← hw]
          have xq : Ext wr wq := by rw [hw]; exact Qt.ext ⟨_, rfl⟩
          clear hw
          replace bxa := bxa.ext xq
          replace bxn := bxn.ext xq
          obtain ⟨t2, ht2⟩ : ∃ z, z = s.extract 0 pt ++ { data := #[46] } ++ s.extract pt s.size := ⟨_, rfl⟩
          rw [← ht2]
          have HT2 : Hid (bs t2 = pointT (padT (fmtL 10 (decV q1 p)) p) p) := by
            show _ = _
            rw [ht2, HFP.out, bs_append, bs_append, bs_take, bs_drop, HP1.out, List.append_assoc]
            rfl
          have ht2s : t2.size ≤ 2000000 := by
            rw [ht2, ByteArray.size_append, ByteArray.size_append, ByteArray.size_extract, ByteArray.size_extract]
            have h5 : (ByteArray.mk #[46]).size = 1 := rfl
            omega
          clear ht2 HFP
          have HC : Hid (¬ (q1.num < 0 ∧ decV q1 p ≠ 0)) := fun h => absurd h.1 (by have h5 := HSG.out; omega)
          have xz : Ext w wq := (by repeat' (first | with_reducible exact Ext.refl _ | with_reducible assumption | with_reducible apply Ext.alloc_r | with_reducible apply Ext.drew_r | with_reducible apply Ext.drewN_r | with_reducible refine Ext.trans ?_ ‹Ext _ _›))
          have ka_0 := bxa.c 0 (.int .i64 g1) rfl
          have ka_1 := bxa.c 1 (.slice A1 L1 c1) rfl
          have ka_2 := bxa.c 2 (.int .i64 h1) rfl
          have ka_3 := bxa.c 3 (.slice B1 M1 d1) rfl
          have kn_0 := bxn.c 0 (.int .i64 gn) rfl
          have kn_1 := bxn.c 1 (.slice An Ln cn) rfl
          go_wp2_with fail
          clear ka_0 ka_1 ka_2 ka_3 kn_0 kn_1
          go_ret
          refine ⟨_, rfl, ?_, xz⟩
          unfold decT
          rw [if_neg HC.out, List.nil_append, HT2.out]
        · have HT2 : Hid (bs s = pointT (padT (fmtL 10 (decV q1 p)) p) p) := by
            show _ = _
            unfold pointT
            rw [if_neg hp0]
            exact HP1.out
          have HC : Hid (¬ (q1.num < 0 ∧ decV q1 p ≠ 0)) := fun h => absurd h.1 (by have h5 := HSG.out; omega)
          have xz : Ext w wr := (by repeat' (first | with_reducible exact Ext.refl _ | with_reducible assumption | with_reducible apply Ext.alloc_r | with_reducible apply Ext.drew_r | with_reducible apply Ext.drewN_r | with_reducible refine Ext.trans ?_ ‹Ext _ _›))
          have ka_0 := bxa.c 0 (.int .i64 g1) rfl
          have ka_1 := bxa.c 1 (.slice A1 L1 c1) rfl
          have ka_2 := bxa.c 2 (.int .i64 h1) rfl
          have ka_3 := bxa.c 3 (.slice B1 M1 d1) rfl
          have kn_0 := bxn.c 0 (.int .i64 gn) rfl
          have kn_1 := bxn.c 1 (.slice An Ln cn) rfl
          go_wp2_with fail
          clear ka_0 ka_1 ka_2 ka_3 kn_0 kn_1
          go_ret
          refine ⟨_, rfl, ?_, xz⟩
          unfold decT
          rw [if_neg HC.out, List.nil_append, HT2.out]
theorem qdec_r {w : World} {g1 h1 : Int} {A1 B1 : Option Addr} {c1 d1 L1 M1 K1 : Nat} {q1 : Rat} (z1 : QR w g1 A1 c1 L1 h1 B1 d1 M1 K1 q1) (hs1 : K1 ≤ 1000) {p : Nat} (hp : p ≤ 40) :
    Calls Try.prog 15 #[Value.agg #[Value.int .i64 g1, Value.slice A1 L1 c1, Value.int .i64 h1, Value.slice B1 M1 d1], .int .i64 p] w (RetS w (decT q1 p)) := by
  by_cases h : q1.num < 0
  · exact qdec_neg z1 hs1 hp h
  · exact qdec_pos z1 hs1 hp h
end Go.Proofs.Ytfnmbhjifdfibaa
