/- The reference: the simplest fraction, by trying denominators. -/
import Derived.Test.YtfnmbhjifdfibaaSpLaw5d
import Derived.Test.YtfnmbhjifdfibaaSpSimpP
import Derived.StillTail
import Derived.Test.YtfnmbhjifdfibaaTail
import Derived.Deep.RegionHeldLaw
import Derived.Deep.LoopGhost
import Derived.Deep.QuietTactic
import Derived.BigQuiet
namespace Go.Proofs.Ytfnmbhjifdfibaa
open Go.RowKit
theorem qr_bl {w : World} {g1 h1 : Int} {A1 B1 : Option Addr} {c1 d1 L1 M1 K1 : Nat} {q1 : Rat} (z : QR w g1 A1 c1 L1 h1 B1 d1 M1 K1 q1) : bl q1.num.natAbs ≤ K1 ∧ bl q1.den ≤ K1 := by
  obtain ⟨x, y, _, _, h0, rfl, h3, h4⟩ := z.ex
  exact ⟨Nat.le_trans (bl_mono (rat_num_le h0)) h3, Nat.le_trans (bl_mono (rat_den_le h0)) h4⟩
theorem BK.alloc_z {w : World} {b : Nat} {T : TypeId} {vs : Array Value} {o : Obj} (h : BK w b T vs) : BK (w.alloc o) b T vs := h.ext (Ext.alloc _ _)
theorem BK.drew_z {w : World} {b : Nat} {T : TypeId} {vs : Array Value} (h : BK w b T vs) : BK w.drew b T vs := h.ext (Ext.drew _)
theorem BK.new_z {w : World} {b : Nat} {T : TypeId} {vs : Array Value} (hb : b = w.heap.size) : BK (w.alloc (.cells vs T)) b T vs := by rw [hb]; exact BK.new w vs T
theorem BK.set2z {w : World} {b : Nat} {T : TypeId} {u0 u1 v0 v1 : Value} (h : BK w b T #[u0, u1]) : BK ((w.setCell ⟨b, 0, none⟩ v0).setCell ⟨b, 1, none⟩ v1) b T #[v0, v1] :=
  (BK.set (i := 1) (u := v1) (vs' := #[v0, v1]) (BK.set (i := 0) (u := v0) (vs' := #[v0, u1]) h rfl) rfl)
theorem BK.far2z {w : World} {b b' : Nat} {T : TypeId} {vs : Array Value} {v0 v1 : Value} (hne : b ≠ b') (h : BK w b T vs) : BK ((w.setCell ⟨b', 0, none⟩ v0).setCell ⟨b', 1, none⟩ v1) b T vs := (h.far hne 0 v0).far hne 1 v1
/-- An integer of the reference in a box laid behind w. -/
def PutZK (w w' : World) (x : Int) (s : Value) : Prop := ∃ b g A c L, s = .pointer (some ⟨b, 0, none⟩) ∧ w.heap.size ≤ b ∧ BK w' b 36 #[.int .i64 g, .slice A L c] ∧ RZ w' g A c L x ∧ Ext w w'
theorem PutZK.mk {w w' : World} {b : Nat} {x g : Int} {A : Option Addr} {c L : Nat} (hb : w.heap.size ≤ b) (k : BK w' b 36 #[.int .i64 g, .slice A L c]) (h : RZ w' g A c L x) (hx : Ext w w') : PutZK w w' x (.pointer (some ⟨b, 0, none⟩)) := ⟨b, g, A, c, L, rfl, hb, k, h, hx⟩
/-- Two integers of the reference in boxes laid behind w. -/
def PutZ2 (w w' : World) (x y : Int) (s t : Value) : Prop := ∃ b b' g A c L g' A' c' L', s = .pointer (some ⟨b, 0, none⟩) ∧ t = .pointer (some ⟨b', 0, none⟩) ∧ w.heap.size ≤ b ∧ w.heap.size ≤ b' ∧ b ≠ b' ∧ BK w' b 36 #[.int .i64 g, .slice A L c] ∧ BK w' b' 36 #[.int .i64 g', .slice A' L' c'] ∧ RZ w' g A c L x ∧ RZ w' g' A' c' L' y ∧ Ext w w'
theorem PutZ2.mk {w w' : World} {b b' : Nat} {x y g g' : Int} {A A' : Option Addr} {c L c' L' : Nat} (hb : w.heap.size ≤ b) (hb' : w.heap.size ≤ b') (hne : b ≠ b') (k : BK w' b 36 #[.int .i64 g, .slice A L c]) (k' : BK w' b' 36 #[.int .i64 g', .slice A' L' c']) (h : RZ w' g A c L x) (h' : RZ w' g' A' c' L' y) (hx : Ext w w') : PutZ2 w w' x y (.pointer (some ⟨b, 0, none⟩)) (.pointer (some ⟨b', 0, none⟩)) := ⟨b, b', g, A, c, L, g', A', c', L', rfl, rfl, hb, hb', hne, k, k', h, h', hx⟩
theorem qr_mk {w : World} {g h : Int} {A B : Option Addr} {c d L M K : Nat} {x : Int} {y : Nat} (h1 : RZ w g A c L x) (h2 : RZ w h B d M (y : Int)) (hy : 0 < y) (b1 : bl x.natAbs ≤ K) (b2 : bl y ≤ K) : QR w g A c L h B d M K (mkRat x y) :=
  ⟨⟨x, y, h1, h2, hy, rfl, b1, b2⟩⟩
theorem qcmp_e {w : World} {g1 h1 g2 h2 k : Int} {A1 B1 A2 B2 : Option Addr} {c1 d1 L1 M1 K1 c2 d2 L2 M2 K2 : Nat} {q1 q2 : Rat} (z1 : QR w g1 A1 c1 L1 h1 B1 d1 M1 K1 q1) (z2 : QR w g2 A2 c2 L2 h2 B2 d2 M2 K2 q2) (hs1 : K1 ≤ 1000000000) (hs2 : K2 ≤ 1000000000) (e : cmpQ q1 q2 = k) :
    Calls Try.prog 48 #[Value.agg #[.int .i64 g1, .slice A1 L1 c1, .int .i64 h1, .slice B1 M1 d1], Value.agg #[.int .i64 g2, .slice A2 L2 c2, .int .i64 h2, .slice B2 M2 d2]] w fun e w' => e = .returned (.int .i64 k) ∧ Ext w w' := by rw [← e]; exact qcmp_r z1 z2 hs1 hs2
theorem bl_one1 : bl 1 ≤ 1 := bl_of_lt (by omega)
theorem bl_200 {d : Nat} (h : d ≤ 200) : bl d ≤ 8 := bl_of_lt (by omega)
theorem bl_nat (n : Nat) : bl ((n : Int)).natAbs = bl n := by rw [Int.natAbs_natCast]
theorem blz_add1 (x : Int) : bl (x + 1).natAbs ≤ bl x.natAbs + 2 := by
  have h1 : bl (x + 1).natAbs ≤ bl (x.natAbs + 1) := bl_mono (by omega)
  have h2 := bl_add x.natAbs 1
  have h3 := bl_one1
  omega
theorem blz_mul (x y : Int) : bl (x * y).natAbs ≤ bl x.natAbs + bl y.natAbs := by rw [Int.natAbs_mul]; exact bl_mul _ _
theorem blz_div (x : Int) (y : Nat) : bl (x / (y : Int)).natAbs ≤ bl x.natAbs := bl_mono (Int.natAbs_ediv_le_natAbs _ _)
theorem nup_eq (q : Rat) (d : Nat) : floorQ (q * ((d : Int) : Rat)) + 1 = nup q d := by
  rw [← Rat.mkRat_one]
  unfold nup
  congr 1
  have h : q * mkRat d 1 = mkRat (q.num * d) q.den := by
    conv => lhs; lhs; rw [← Rat.mkRat_self q]
    rw [Rat.mkRat_mul_mkRat, Nat.mul_one]
  rw [h]
  exact floorQ_mk q.den_pos
theorem bl_nup {q : Rat} {d K : Nat} (h : bl q.num.natAbs ≤ K) (hd : bl d ≤ 8) : bl (nup q d).natAbs ≤ K + 10 := by
  unfold nup
  have h1 := blz_add1 (q.num * (d : Int) / (q.den : Int))
  have h2 := blz_div (q.num * (d : Int)) q.den
  have h3 := blz_mul q.num d
  rw [bl_nat] at h3
  omega
/-- The call returns a fraction of the reference and whether it is q. -/
def RetQB (w : World) (K : Nat) (q : Rat) (e : Ending) (w' : World) : Prop := ∃ g A c L h B d M b, e = .returned (.tuple #[.agg #[.int .i64 g, .slice A L c, .int .i64 h, .slice B M d], .bool b]) ∧ (b = true → QR w' g A c L h B d M K q) ∧ Ext w w'
theorem nup_pos {a : Rat} {d : Nat} (h : ¬ a < 0) : 0 < nup a d := by
  have h1 : 0 ≤ a.num := by
    rcases Int.lt_or_le a.num 0 with h2 | h2
    · exact absurd ((rat_neg0 a).2 h2) h
    · exact h2
  have h3 : 0 ≤ a.num * (d : Int) / (a.den : Int) := Int.ediv_nonneg (Int.mul_nonneg h1 (by omega)) (by omega)
  unfold nup
  omega
theorem nup_neg {a b q : Rat} (hq : IsSimp a b q) (h : ¬ 0 < b) : nup a q.den ≤ 0 := by
  rcases Int.lt_or_le 0 (nup a q.den) with h1 | h1
  · exact absurd (ratLtTrans ((rat_pos q.den_pos).2 h1) hq.at_den) h
  · exact h1
theorem toRZ {P : Program} {f : Nat} {args : Array Value} {w : World} {x y : Int} (e : x = y) (h : Calls P f args w (RetRZ w x)) : Calls P f args w (RetRZ w y) := by rw [← e]; exact h
theorem cmpQ_ge0 {a b : Rat} (h : ¬ a < b) : 0 ≤ cmpQ a b := by unfold cmpQ; rw [if_neg h]; split <;> omega
theorem cmpQ_lt0 {a b : Rat} (h : a < b) : ¬ 0 ≤ cmpQ a b := by unfold cmpQ; rw [if_pos h]; omega
theorem cmpQ_lt0i {a b : Rat} : cmpQ a b < 0 ↔ a < b := by
  unfold cmpQ
  by_cases h : a < b
  · rw [if_pos h]; exact ⟨fun _ => h, fun _ => by omega⟩
  · rw [if_neg h]
    refine ⟨fun h2 => ?_, fun h2 => absurd h2 h⟩
    split at h2 <;> omega
theorem floor_bd {q : Rat} {d K : Nat} (h : bl q.num.natAbs ≤ K) (hK : K ≤ 1000) (hd : bl d ≤ 8) : bl (floorQ (q * ((d : Int) : Rat))).natAbs ≤ 8796093022208 := by
  have h1 : floorQ (q * ((d : Int) : Rat)) = q.num * (d : Int) / (q.den : Int) := by have h5 := nup_eq q d; unfold nup at h5; omega
  rw [h1]
  have h2 := blz_div (q.num * (d : Int)) q.den
  have h3 := blz_mul q.num d
  rw [bl_nat] at h3
  omega
set_option maxHeartbeats 4000000 in
set_option maxRecDepth 100000 in
theorem qsimp_zero {w : World} {g1 h1 g2 h2 : Int} {A1 B1 A2 B2 : Option Addr} {c1 d1 L1 M1 c2 d2 L2 M2 K : Nat} {q1 q2 q : Rat} (z1 : QR w g1 A1 c1 L1 h1 B1 d1 M1 K q1) (z2 : QR w g2 A2 c2 L2 h2 B2 d2 M2 K q2) (hK : K ≤ 1000) (hq : IsSimp q1 q2 q) (hh : q1 < 0 ∧ 0 < q2) :
    Calls Try.prog 52 #[Value.agg #[Value.int IntKind.i64 g1, Value.slice A1 L1 c1, Value.int IntKind.i64 h1, Value.slice B1 M1 d1], Value.agg #[Value.int IntKind.i64 g2, Value.slice A2 L2 c2, Value.int IntKind.i64 h2, Value.slice B2 M2 d2], .int .i64 200] w (RetQB w (K + 20) q) := by
  obtain ⟨n1, n2⟩ := qr_bl z1
  obtain ⟨X, Y, p1, p2, p3, p4, p5, p6⟩ := z2.ex
  have hqd := q.den_pos
  have HZ1 := Lib.hid z1
  have HZ2 := Lib.hid (And.intro z2 (And.intro p1 p2))
  have HQ := Lib.hid hq
  have HB := Lib.hid p4
  have HH := Lib.hid hh
  clear z1 z2 hq p1 p2 p4 hh
  go_enter Try.func52, Try.ntmps52
  go_wp2_with fail
  obtain ⟨w0, hw0⟩ : ∃ z : World, z = (((w.alloc (.cells #[.int .i64 g1, .slice A1 L1 c1, .int .i64 h1, .slice B1 M1 d1] 38)).alloc (.cells #[.int .i64 g2, .slice A2 L2 c2, .int .i64 h2, .slice B2 M2 d2] 38)).alloc (.cells #[.int .i64 0, .slice none 0 0, .int .i64 0, .slice none 0 0] 38)) := ⟨_, rfl⟩
  rw [← hw0]
  have bxa : BK w0 (w.heap.size) 38 #[.int .i64 g1, .slice A1 L1 c1, .int .i64 h1, .slice B1 M1 d1] := by rw [hw0]; have h5 := (BK.ext (BK.ext (BK.new w #[.int .i64 g1, .slice A1 L1 c1, .int .i64 h1, .slice B1 M1 d1] 38) (Ext.alloc _ (.cells #[.int .i64 g2, .slice A2 L2 c2, .int .i64 h2, .slice B2 M2 d2] 38))) (Ext.alloc _ (.cells #[.int .i64 0, .slice none 0 0, .int .i64 0, .slice none 0 0] 38))); simpa only [World.size_alloc] using h5
  have bxb : BK w0 (w.heap.size + 1) 38 #[.int .i64 g2, .slice A2 L2 c2, .int .i64 h2, .slice B2 M2 d2] := by rw [hw0]; have h5 := (BK.ext (BK.new (w.alloc (.cells #[.int .i64 g1, .slice A1 L1 c1, .int .i64 h1, .slice B1 M1 d1] 38)) #[.int .i64 g2, .slice A2 L2 c2, .int .i64 h2, .slice B2 M2 d2] 38) (Ext.alloc _ (.cells #[.int .i64 0, .slice none 0 0, .int .i64 0, .slice none 0 0] 38))); simpa only [World.size_alloc] using h5
  have bxr : BK w0 (w.heap.size + 1 + 1) 38 #[.int .i64 0, .slice none 0 0, .int .i64 0, .slice none 0 0] := by rw [hw0]; have h5 := (BK.new ((w.alloc (.cells #[.int .i64 g1, .slice A1 L1 c1, .int .i64 h1, .slice B1 M1 d1] 38)).alloc (.cells #[.int .i64 g2, .slice A2 L2 c2, .int .i64 h2, .slice B2 M2 d2] 38)) #[.int .i64 0, .slice none 0 0, .int .i64 0, .slice none 0 0] 38); simpa only [World.size_alloc] using h5
  have hszw0 : w0.heap.size = w.heap.size + 1 + 1 + 1 := by rw [hw0]; simp only [World.size_alloc]
  have xw0 : Ext w w0 := by rw [hw0]; exact (((Ext.alloc _ _).trans (Ext.alloc _ _)).trans (Ext.alloc _ _))
  clear hw0
  have HBX := Lib.hid (And.intro bxa (And.intro bxb bxr))
  clear bxa bxb bxr
  go_loopw [8] (fun dv wr => ∃ d : Nat, dv = .int .i64 d ∧ 1 ≤ d ∧ d ≤ q.den ∧ d ≤ 201 ∧ Ext w0 wr) (fun dv _ => 201 - (intOf dv).toNat)
  case atStart => exact ⟨1, rfl, by omega, by omega, by omega, Ext.refl _⟩
  case round =>
    obtain ⟨d, rfl, hd1, hdq, hd2, hx⟩ := hrel
    have hszr := hx.size
    have bxa := HBX.out.1.ext hx
    have bxb := HBX.out.2.1.ext hx
    have bxr := HBX.out.2.2.ext hx
    have xwr : Ext w wr := xw0.trans hx
    by_cases hle : d ≤ 200
    · have b8 := bl_200 hle
      have b9 := bl_nup n1 b8
      have HNU := Lib.hid (nup_eq q1 d)
      obtain ⟨n, hn⟩ : ∃ n : Int, nup q1 d = n := ⟨_, rfl⟩
      rw [hn] at b9 HNU
      have HN := Lib.hid hn
      clear hn
      have u1 : bl (1 : Int).natAbs ≤ 1 := bl_one1
      have u2 : bl ((d : Int)).natAbs ≤ 8 := by rw [bl_nat]; exact b8
      have ka_0 := bxa.c 0 (.int .i64 g1) rfl
      have ka_1 := bxa.c 1 (.slice A1 L1 c1) rfl
      have ka_2 := bxa.c 2 (.int .i64 h1) rfl
      have ka_3 := bxa.c 3 (.slice B1 M1 d1) rfl
      have kb_0 := bxb.c 0 (.int .i64 g2) rfl
      have kb_1 := bxb.c 1 (.slice A2 L2 c2) rfl
      have kb_2 := bxb.c 2 (.int .i64 h2) rfl
      have kb_3 := bxb.c 3 (.slice B2 M2 d2) rfl
      have kr_0 := bxr.c 0 (.int .i64 0) rfl
      have kr_1 := bxr.c 1 (.slice none 0 0) rfl
      have kr_2 := bxr.c 2 (.int .i64 0) rfl
      have kr_3 := bxr.c 3 (.slice none 0 0) rfl
      go_wp2_with fail
      clear ka_0 ka_1 ka_2 ka_3 kb_0 kb_1 kb_2 kb_3 kr_0 kr_1 kr_2 kr_3
      refine (small_rz (n := (d : Int)) (by omega)).mono ?_
      rintro e w1 ⟨gdn, Adn, cdn, Ldn, rfl, dn, x1⟩
      have szw1 : wr.heap.size ≤ w1.heap.size := x1.size
      replace bxa := bxa.ext x1
      replace bxb := bxb.ext x1
      replace bxr := bxr.ext x1
      have HDN := Lib.hid dn
      clear dn
      have ka_0 := bxa.c 0 (.int .i64 g1) rfl
      have ka_1 := bxa.c 1 (.slice A1 L1 c1) rfl
      have ka_2 := bxa.c 2 (.int .i64 h1) rfl
      have ka_3 := bxa.c 3 (.slice B1 M1 d1) rfl
      have kb_0 := bxb.c 0 (.int .i64 g2) rfl
      have kb_1 := bxb.c 1 (.slice A2 L2 c2) rfl
      have kb_2 := bxb.c 2 (.int .i64 h2) rfl
      have kb_3 := bxb.c 3 (.slice B2 M2 d2) rfl
      have kr_0 := bxr.c 0 (.int .i64 0) rfl
      have kr_1 := bxr.c 1 (.slice none 0 0) rfl
      have kr_2 := bxr.c 2 (.int .i64 0) rfl
      have kr_3 := bxr.c 3 (.slice none 0 0) rfl
      have t1a_0 := fun (o0 : Obj) => ((Ext.alloc w1 o0).cell (bxa.c 0 (.int .i64 g1) rfl))
      have t1a_1 := fun (o0 : Obj) => ((Ext.alloc w1 o0).cell (bxa.c 1 (.slice A1 L1 c1) rfl))
      have t1a_2 := fun (o0 : Obj) => ((Ext.alloc w1 o0).cell (bxa.c 2 (.int .i64 h1) rfl))
      have t1a_3 := fun (o0 : Obj) => ((Ext.alloc w1 o0).cell (bxa.c 3 (.slice B1 M1 d1) rfl))
      have t1b_0 := fun (o0 : Obj) => ((Ext.alloc w1 o0).cell (bxb.c 0 (.int .i64 g2) rfl))
      have t1b_1 := fun (o0 : Obj) => ((Ext.alloc w1 o0).cell (bxb.c 1 (.slice A2 L2 c2) rfl))
      have t1b_2 := fun (o0 : Obj) => ((Ext.alloc w1 o0).cell (bxb.c 2 (.int .i64 h2) rfl))
      have t1b_3 := fun (o0 : Obj) => ((Ext.alloc w1 o0).cell (bxb.c 3 (.slice B2 M2 d2) rfl))
      have t1r_0 := fun (o0 : Obj) => ((Ext.alloc w1 o0).cell (bxr.c 0 (.int .i64 0) rfl))
      have t1r_1 := fun (o0 : Obj) => ((Ext.alloc w1 o0).cell (bxr.c 1 (.slice none 0 0) rfl))
      have t1r_2 := fun (o0 : Obj) => ((Ext.alloc w1 o0).cell (bxr.c 2 (.int .i64 0) rfl))
      have t1r_3 := fun (o0 : Obj) => ((Ext.alloc w1 o0).cell (bxr.c 3 (.slice none 0 0) rfl))
      go_wp2_with fail
      clear ka_0 ka_1 ka_2 ka_3 kb_0 kb_1 kb_2 kb_3 kr_0 kr_1 kr_2 kr_3 t1a_0 t1a_1 t1a_2 t1a_3 t1b_0 t1b_1 t1b_2 t1b_3 t1r_0 t1r_1 t1r_2 t1r_3
      obtain ⟨w2, hw⟩ : ∃ z : World, z = (w1.alloc (.cells #[.int .i64 gdn, .slice Adn Ldn cdn] 36)) := ⟨_, rfl⟩
      rw [← hw]
      have x2 : Ext w1 w2 := by rw [hw]; exact (Ext.alloc _ _)
      replace bxa := bxa.ext x2
      replace bxb := bxb.ext x2
      replace bxr := bxr.ext x2
      have bxden : BK w2 (w1.heap.size) 36 #[.int .i64 gdn, .slice Adn Ldn cdn] := by rw [hw]; have h5 := (BK.new w1 #[.int .i64 gdn, .slice Adn Ldn cdn] 36); simpa only [World.size_alloc] using h5
      have szw2 : w2.heap.size = w1.heap.size + 1 := by rw [hw]; simp only [World.size_alloc]
      clear hw
      have ka_0 := bxa.c 0 (.int .i64 g1) rfl
      have ka_1 := bxa.c 1 (.slice A1 L1 c1) rfl
      have ka_2 := bxa.c 2 (.int .i64 h1) rfl
      have ka_3 := bxa.c 3 (.slice B1 M1 d1) rfl
      have kden_0 := bxden.c 0 (.int .i64 gdn) rfl
      have kden_1 := bxden.c 1 (.slice Adn Ldn cdn) rfl
      have HSZ := Lib.hid (And.intro True.intro (And.intro hszw0 (And.intro hszr (And.intro szw1 szw2))))
      clear hszw0 hszr szw1 szw2
      go_wp2_with fail
      go_cut [10] (fun s10 wx => PutZK w2 wx n s10)
      case first =>
        have HK : Hid (∀ w', Ext w2 w' → Ext w2 w' ∧ w'.cell? ⟨w.heap.size, 0, none⟩ = some (.int .i64 g1) ∧ w'.cell? ⟨w.heap.size, 1, none⟩ = some (.slice A1 L1 c1) ∧ w'.cell? ⟨w.heap.size, 2, none⟩ = some (.int .i64 h1) ∧ w'.cell? ⟨w.heap.size, 3, none⟩ = some (.slice B1 M1 d1) ∧ w'.cell? ⟨w1.heap.size, 0, none⟩ = some (.int .i64 gdn) ∧ w'.cell? ⟨w1.heap.size, 1, none⟩ = some (.slice Adn Ldn cdn)) := fun w' hk => ⟨hk, hk.cell ka_0, hk.cell ka_1, hk.cell ka_2, hk.cell ka_3, hk.cell kden_0, hk.cell kden_1⟩
        first
        | go_region_held3 (fun w' => Ext w2 w' ∧ w'.cell? ⟨w.heap.size, 0, none⟩ = some (.int .i64 g1) ∧ w'.cell? ⟨w.heap.size, 1, none⟩ = some (.slice A1 L1 c1) ∧ w'.cell? ⟨w.heap.size, 2, none⟩ = some (.int .i64 h1) ∧ w'.cell? ⟨w.heap.size, 3, none⟩ = some (.slice B1 M1 d1) ∧ w'.cell? ⟨w1.heap.size, 0, none⟩ = some (.int .i64 gdn) ∧ w'.cell? ⟨w1.heap.size, 1, none⟩ = some (.slice Adn Ldn cdn))
            ((with_reducible refine HK.out _ ?_; (repeat' (first | with_reducible exact Ext.refl _ | with_reducible assumption | with_reducible apply Ext.alloc_r | with_reducible apply Ext.drew_r | with_reducible apply Ext.drewN_r | with_reducible apply Ext.set_r | with_reducible exact Nat.le_refl _ | omega | with_reducible refine Ext.trans ?_ ‹Ext _ _›))))
            (first
              | (go_at_call 83; have hgd := ob; clear hgd; refine (toRZ HNU.out (add_rz (f.ext (by with_reducible repeat' first | exact Ext.refl _ | assumption | apply Ext.alloc_r | apply Ext.drew_r | apply Ext.drewN_r | refine Ext.trans ?_ ‹Ext _ _›)) (ob.ext (by with_reducible repeat' first | exact Ext.refl _ | assumption | apply Ext.alloc_r | apply Ext.drew_r | apply Ext.drewN_r | refine Ext.trans ?_ ‹Ext _ _›)) (floor_bd n1 hK b8) (by omega))).mono ?_; rintro e w7 ⟨gt, At, ct, Lt, rfl, t, x7⟩; (have zs7 := x7.size); (try simp only [World.size_alloc] at zs7); (try ((with_reducible have h7_0 := box_ext (vs := #[.int .i64 0, .slice none 0 0]) x7); have h7_0c0 := (h7_0.1 0 (.int .i64 0) rfl).1; have h7_0f0 := (h7_0.1 0 (.int .i64 0) rfl).2; have h7_0c1 := (h7_0.1 1 (.slice none 0 0) rfl).1; have h7_0f1 := (h7_0.1 1 (.slice none 0 0) rfl).2; have h7_0b := h7_0.2.1; have h7_0z := h7_0.2.2; (try simp only [World.size_alloc] at h7_0b h7_0z h7_0c0 h7_0f0 h7_0c1 h7_0f1); have h7_0m := Nat.ne_of_lt h7_0z; have h7_0n := Nat.ne_of_gt h7_0z; clear h7_0)); (try (have hh : Ext w3 w7 := ?g700; (case g700 => ((with_reducible repeat' first | exact Ext.refl _ | assumption | apply Ext.alloc_r | apply Ext.drew_r | apply Ext.drewN_r | refine Ext.trans ?_ ‹Ext _ _›); done)); replace h3_0f0 := hh.frozen h3_0c0 h3_0f0; replace h3_0c0 := hh.cell h3_0c0; replace h3_0f1 := hh.frozen h3_0c1 h3_0f1; replace h3_0c1 := hh.cell h3_0c1; replace h3_0b := h3_0b.ext hh; have h3_0z2 := Nat.lt_of_lt_of_le h3_0z hh.size; have h3_0m2 := Nat.ne_of_lt h3_0z2; have h3_0n2 := Nat.ne_of_gt h3_0z2; clear hh)); (try (have hh : Ext w4 w7 := ?g710; (case g710 => ((with_reducible repeat' first | exact Ext.refl _ | assumption | apply Ext.alloc_r | apply Ext.drew_r | apply Ext.drewN_r | refine Ext.trans ?_ ‹Ext _ _›); done)); replace h4_0f0 := hh.frozen h4_0c0 h4_0f0; replace h4_0c0 := hh.cell h4_0c0; replace h4_0f1 := hh.frozen h4_0c1 h4_0f1; replace h4_0c1 := hh.cell h4_0c1; replace h4_0b := h4_0b.ext hh; have h4_0z2 := Nat.lt_of_lt_of_le h4_0z hh.size; have h4_0m2 := Nat.ne_of_lt h4_0z2; have h4_0n2 := Nat.ne_of_gt h4_0z2; clear hh)); (try (have hh : Ext w5 w7 := ?g720; (case g720 => ((with_reducible repeat' first | exact Ext.refl _ | assumption | apply Ext.alloc_r | apply Ext.drew_r | apply Ext.drewN_r | refine Ext.trans ?_ ‹Ext _ _›); done)); replace h5_0f0 := hh.frozen h5_0c0 h5_0f0; replace h5_0c0 := hh.cell h5_0c0; replace h5_0f1 := hh.frozen h5_0c1 h5_0f1; replace h5_0c1 := hh.cell h5_0c1; replace h5_0b := h5_0b.ext hh; have h5_0z2 := Nat.lt_of_lt_of_le h5_0z hh.size; have h5_0m2 := Nat.ne_of_lt h5_0z2; have h5_0n2 := Nat.ne_of_gt h5_0z2; clear hh)); (try (have hh : Ext w6 w7 := ?g730; (case g730 => ((with_reducible repeat' first | exact Ext.refl _ | assumption | apply Ext.alloc_r | apply Ext.drew_r | apply Ext.drewN_r | refine Ext.trans ?_ ‹Ext _ _›); done)); replace h6_0f0 := hh.frozen h6_0c0 h6_0f0; replace h6_0c0 := hh.cell h6_0c0; replace h6_0f1 := hh.frozen h6_0c1 h6_0f1; replace h6_0c1 := hh.cell h6_0c1; replace h6_0b := h6_0b.ext hh; have h6_0z2 := Nat.lt_of_lt_of_le h6_0z hh.size; have h6_0m2 := Nat.ne_of_lt h6_0z2; have h6_0n2 := Nat.ne_of_gt h6_0z2; clear hh)))
              | (go_at_call 20; have hgd := f; clear hgd; refine (small_rz (n := 1) (by omega)).mono ?_; rintro e w6 ⟨gob, Aob, cob, Lob, rfl, ob, x6⟩; (have zs6 := x6.size); (try simp only [World.size_alloc] at zs6); (try ((with_reducible have h6_0 := box_ext (vs := #[.int .i64 0, .slice none 0 0]) x6); have h6_0c0 := (h6_0.1 0 (.int .i64 0) rfl).1; have h6_0f0 := (h6_0.1 0 (.int .i64 0) rfl).2; have h6_0c1 := (h6_0.1 1 (.slice none 0 0) rfl).1; have h6_0f1 := (h6_0.1 1 (.slice none 0 0) rfl).2; have h6_0b := h6_0.2.1; have h6_0z := h6_0.2.2; (try simp only [World.size_alloc] at h6_0b h6_0z h6_0c0 h6_0f0 h6_0c1 h6_0f1); have h6_0m := Nat.ne_of_lt h6_0z; have h6_0n := Nat.ne_of_gt h6_0z; clear h6_0)))
              | (go_at_call 28; have hgd := m; clear hgd; refine (qfloor_r (m.ext (by with_reducible repeat' first | exact Ext.refl _ | assumption | apply Ext.alloc_r | apply Ext.drew_r | apply Ext.drewN_r | refine Ext.trans ?_ ‹Ext _ _›)) (by omega)).mono ?_; rintro e w5 ⟨gf, Af, cf, Lf, rfl, f, x5⟩; (have zs5 := x5.size); (try simp only [World.size_alloc] at zs5); (try ((with_reducible have h5_0 := box_ext (vs := #[.int .i64 0, .slice none 0 0]) x5); have h5_0c0 := (h5_0.1 0 (.int .i64 0) rfl).1; have h5_0f0 := (h5_0.1 0 (.int .i64 0) rfl).2; have h5_0c1 := (h5_0.1 1 (.slice none 0 0) rfl).1; have h5_0f1 := (h5_0.1 1 (.slice none 0 0) rfl).2; have h5_0b := h5_0.2.1; have h5_0z := h5_0.2.2; (try simp only [World.size_alloc] at h5_0b h5_0z h5_0c0 h5_0f0 h5_0c1 h5_0f1); have h5_0m := Nat.ne_of_lt h5_0z; have h5_0n := Nat.ne_of_gt h5_0z; clear h5_0)))
              | (go_at_call 37; have hgd := oa; clear hgd; refine (qmul_r (HZ1.out.ext (by with_reducible repeat' first | exact Ext.refl _ | assumption | apply Ext.alloc_r | apply Ext.drew_r | apply Ext.drewN_r | refine Ext.trans ?_ ‹Ext _ _›)) (qr_int (K := 8) (HDN.out.ext (by with_reducible repeat' first | exact Ext.refl _ | assumption | apply Ext.alloc_r | apply Ext.drew_r | apply Ext.drewN_r | refine Ext.trans ?_ ‹Ext _ _›)) (oa.ext (by with_reducible repeat' first | exact Ext.refl _ | assumption | apply Ext.alloc_r | apply Ext.drew_r | apply Ext.drewN_r | refine Ext.trans ?_ ‹Ext _ _›)) (by omega) (by omega)) (by omega) (by omega)).mono ?_; rintro e w4 ⟨gm, Am, cm, Lm, hm, Bm, dm, Mm, rfl, m, x4⟩; (have zs4 := x4.size); (try simp only [World.size_alloc] at zs4); (try ((with_reducible have h4_0 := box_ext (vs := #[.int .i64 0, .slice none 0 0]) x4); have h4_0c0 := (h4_0.1 0 (.int .i64 0) rfl).1; have h4_0f0 := (h4_0.1 0 (.int .i64 0) rfl).2; have h4_0c1 := (h4_0.1 1 (.slice none 0 0) rfl).1; have h4_0f1 := (h4_0.1 1 (.slice none 0 0) rfl).2; have h4_0b := h4_0.2.1; have h4_0z := h4_0.2.2; (try simp only [World.size_alloc] at h4_0b h4_0z h4_0c0 h4_0f0 h4_0c1 h4_0f1); have h4_0m := Nat.ne_of_lt h4_0z; have h4_0n := Nat.ne_of_gt h4_0z; clear h4_0)))
              | (go_at_call 20; refine (small_rz (n := 1) (by omega)).mono ?_; rintro e w3 ⟨goa, Aoa, coa, Loa, rfl, oa, x3⟩; (have zs3 := x3.size); (try simp only [World.size_alloc, World.size_drew] at zs3); (try ((with_reducible have h3_0 := box_ext (vs := #[.int .i64 0, .slice none 0 0]) ((Ext.drew _).trans x3)); have h3_0c0 := (h3_0.1 0 (.int .i64 0) rfl).1; have h3_0f0 := (h3_0.1 0 (.int .i64 0) rfl).2; have h3_0c1 := (h3_0.1 1 (.slice none 0 0) rfl).1; have h3_0f1 := (h3_0.1 1 (.slice none 0 0) rfl).2; have h3_0b := h3_0.2.1; have h3_0z := h3_0.2.2; (try simp only [World.size_alloc] at h3_0b h3_0z h3_0c0 h3_0f0 h3_0c1 h3_0f1); have h3_0m := Nat.ne_of_lt h3_0z; have h3_0n := Nat.ne_of_gt h3_0z; clear h3_0))))
        | fail
        all_goals (clear HK; go_wp2_with fail; go_meet)
        all_goals
          refine PutZK.mk (g := gt) (A := At) (c := ct) (L := Lt) ?_ ?_ (t.kept ?_) ?_
          · (first | exact Nat.le_refl _ | omega | (simp only [World.size_alloc, World.size_drew]; omega) | (simp; omega))
          · (repeat' (first | with_reducible assumption | with_reducible apply BK.set2z | (with_reducible apply BK.far2z; (case hne => (first | assumption | omega | (simp; done) | (simp only [World.size_alloc, World.size_drew]; omega)))) | (with_reducible apply BK.far2z; (case hne => (first | assumption | omega | (simp; done) | (simp only [World.size_alloc, World.size_drew]; omega)))) | (with_reducible apply BK.new_z; (first | rfl | (simp; done))) | with_reducible apply BK.alloc_z | with_reducible apply BK.drew_z | with_reducible refine BK.ext ?_ ‹Ext _ _›))
          · (repeat' (first | with_reducible exact Kept.refl _ | with_reducible apply Kept.alloc_r | with_reducible apply Kept.drew_r | (with_reducible apply Kept.setZ; (case hb => ((repeat' (first | with_reducible assumption | with_reducible apply IsBox.set_ | (with_reducible apply IsBox.new; (first | (with_reducible rfl) | simp); done) | with_reducible apply IsBox.alloc_ | with_reducible apply IsBox.drew_ | with_reducible refine IsBox.ext ?_ ‹Ext _ _›)); done))) | with_reducible refine Kept.trans ?_ (Ext.kept ‹Ext _ _›)))
          · (repeat' (first | with_reducible exact Ext.refl _ | with_reducible assumption | with_reducible apply Ext.alloc_r | with_reducible apply Ext.drew_r | with_reducible apply Ext.drewN_r | with_reducible apply Ext.set_r | with_reducible exact Nat.le_refl _ | omega | with_reducible refine Ext.trans ?_ ‹Ext _ _›))
      case rest =>
        obtain ⟨hszw0, hszr, szw1, szw2⟩ := HSZ.out.2
        clear ka_0 ka_1 ka_2 ka_3 kden_0 kden_1
        obtain ⟨b10, gn, An, cn, Ln, rfl, hb10, bxn, nn, hxc⟩ := hcut
        obtain ⟨wn, rfl⟩ : ∃ z : World, z = wc := ⟨_, rfl⟩
        have szwn : w2.heap.size ≤ wn.heap.size := hxc.size
        replace bxa := bxa.ext hxc
        replace bxb := bxb.ext hxc
        replace bxr := bxr.ext hxc
        replace bxden := bxden.ext hxc
        have hl10 := bxn.lt
        have HNN := Lib.hid nn
        have HGN : Hid (gn = n.sign) := nn.sign
        clear nn
        have ka_0 := bxa.c 0 (.int .i64 g1) rfl
        have ka_1 := bxa.c 1 (.slice A1 L1 c1) rfl
        have ka_2 := bxa.c 2 (.int .i64 h1) rfl
        have ka_3 := bxa.c 3 (.slice B1 M1 d1) rfl
        have kb_0 := bxb.c 0 (.int .i64 g2) rfl
        have kb_1 := bxb.c 1 (.slice A2 L2 c2) rfl
        have kb_2 := bxb.c 2 (.int .i64 h2) rfl
        have kb_3 := bxb.c 3 (.slice B2 M2 d2) rfl
        have kr_0 := bxr.c 0 (.int .i64 0) rfl
        have kr_1 := bxr.c 1 (.slice none 0 0) rfl
        have kr_2 := bxr.c 2 (.int .i64 0) rfl
        have kr_3 := bxr.c 3 (.slice none 0 0) rfl
        have kden_0 := bxden.c 0 (.int .i64 gdn) rfl
        have kden_1 := bxden.c 1 (.slice Adn Ldn cdn) rfl
        have kn_0 := bxn.c 0 (.int .i64 gn) rfl
        have kn_1 := bxn.c 1 (.slice An Ln cn) rfl
        have t1a_0 := fun (o0 : Obj) => ((Ext.alloc wn o0).cell (bxa.c 0 (.int .i64 g1) rfl))
        have t1a_1 := fun (o0 : Obj) => ((Ext.alloc wn o0).cell (bxa.c 1 (.slice A1 L1 c1) rfl))
        have t1a_2 := fun (o0 : Obj) => ((Ext.alloc wn o0).cell (bxa.c 2 (.int .i64 h1) rfl))
        have t1a_3 := fun (o0 : Obj) => ((Ext.alloc wn o0).cell (bxa.c 3 (.slice B1 M1 d1) rfl))
        have t1b_0 := fun (o0 : Obj) => ((Ext.alloc wn o0).cell (bxb.c 0 (.int .i64 g2) rfl))
        have t1b_1 := fun (o0 : Obj) => ((Ext.alloc wn o0).cell (bxb.c 1 (.slice A2 L2 c2) rfl))
        have t1b_2 := fun (o0 : Obj) => ((Ext.alloc wn o0).cell (bxb.c 2 (.int .i64 h2) rfl))
        have t1b_3 := fun (o0 : Obj) => ((Ext.alloc wn o0).cell (bxb.c 3 (.slice B2 M2 d2) rfl))
        have t1r_0 := fun (o0 : Obj) => ((Ext.alloc wn o0).cell (bxr.c 0 (.int .i64 0) rfl))
        have t1r_1 := fun (o0 : Obj) => ((Ext.alloc wn o0).cell (bxr.c 1 (.slice none 0 0) rfl))
        have t1r_2 := fun (o0 : Obj) => ((Ext.alloc wn o0).cell (bxr.c 2 (.int .i64 0) rfl))
        have t1r_3 := fun (o0 : Obj) => ((Ext.alloc wn o0).cell (bxr.c 3 (.slice none 0 0) rfl))
        have t1den_0 := fun (o0 : Obj) => ((Ext.alloc wn o0).cell (bxden.c 0 (.int .i64 gdn) rfl))
        have t1den_1 := fun (o0 : Obj) => ((Ext.alloc wn o0).cell (bxden.c 1 (.slice Adn Ldn cdn) rfl))
        have t1n_0 := fun (o0 : Obj) => ((Ext.alloc wn o0).cell (bxn.c 0 (.int .i64 gn) rfl))
        have t1n_1 := fun (o0 : Obj) => ((Ext.alloc wn o0).cell (bxn.c 1 (.slice An Ln cn) rfl))
        go_wp2_with fail
        clear ka_0 ka_1 ka_2 ka_3 kb_0 kb_1 kb_2 kb_3 kr_0 kr_1 kr_2 kr_3 kden_0 kden_1 kn_0 kn_1 t1a_0 t1a_1 t1a_2 t1a_3 t1b_0 t1b_1 t1b_2 t1b_3 t1r_0 t1r_1 t1r_2 t1r_3 t1den_0 t1den_1 t1n_0 t1n_1
        obtain ⟨w8, hw⟩ : ∃ z : World, z = (wn.alloc (.cells #[.int .i64 gn, .slice An Ln cn, .int .i64 gdn, .slice Adn Ldn cdn] 38)) := ⟨_, rfl⟩
        rw [← hw]
        have x8 : Ext wn w8 := by rw [hw]; exact (Ext.alloc _ _)
        replace bxa := bxa.ext x8
        replace bxb := bxb.ext x8
        replace bxr := bxr.ext x8
        replace bxden := bxden.ext x8
        replace bxn := bxn.ext x8
        have bxx : BK w8 (wn.heap.size) 38 #[.int .i64 gn, .slice An Ln cn, .int .i64 gdn, .slice Adn Ldn cdn] := by rw [hw]; have h5 := (BK.new wn #[.int .i64 gn, .slice An Ln cn, .int .i64 gdn, .slice Adn Ldn cdn] 38); simpa only [World.size_alloc] using h5
        have szw8 : w8.heap.size = wn.heap.size + 1 := by rw [hw]; simp only [World.size_alloc]
        clear hw
        obtain ⟨C, hC⟩ : ∃ C : Int, C = cmpQ (mkRat n d) q2 := ⟨_, rfl⟩
        have HX : Hid (∀ w', Ext w8 w' → QR w' gn An cn Ln gdn Adn cdn Ldn (K + 10) (mkRat n d)) := fun w' hx => qr_mk (HNN.out.ext ((show Ext _ w8 from (by with_reducible repeat' first | exact Ext.refl _ | assumption | apply Ext.alloc_r | apply Ext.drew_r | apply Ext.drewN_r | refine Ext.trans ?_ ‹Ext _ _›)).trans hx)) (HDN.out.ext ((show Ext _ w8 from (by with_reducible repeat' first | exact Ext.refl _ | assumption | apply Ext.alloc_r | apply Ext.drew_r | apply Ext.drewN_r | refine Ext.trans ?_ ‹Ext _ _›)).trans hx)) (by omega) b9 (by omega)
        by_cases hlt : d < q.den
        · have hC0 : 0 ≤ C := by rw [hC]; exact cmpQ_ge0 (by rw [← HN.out]; exact HQ.out.not_below (by omega) hlt)
          have HC := Lib.hid hC.symm
          clear hC
          refine (qcmp_e (HX.out _ (by with_reducible repeat' first | exact Ext.refl _ | assumption | apply Ext.alloc_r | apply Ext.drew_r | apply Ext.drewN_r | refine Ext.trans ?_ ‹Ext _ _›)) (HZ2.out.1.ext (by with_reducible repeat' first | exact Ext.refl _ | assumption | apply Ext.alloc_r | apply Ext.drew_r | apply Ext.drewN_r | refine Ext.trans ?_ ‹Ext _ _›)) (by omega) (by omega) HC.out).mono ?_
          rintro e w9 ⟨rfl, x9⟩
          have szw9 : w8.heap.size ≤ w9.heap.size := x9.size
          replace bxa := bxa.ext x9
          replace bxb := bxb.ext x9
          replace bxr := bxr.ext x9
          replace bxden := bxden.ext x9
          replace bxn := bxn.ext x9
          replace bxx := bxx.ext x9
          clear HX HC
          have ka_0 := bxa.c 0 (.int .i64 g1) rfl
          have ka_1 := bxa.c 1 (.slice A1 L1 c1) rfl
          have ka_2 := bxa.c 2 (.int .i64 h1) rfl
          have ka_3 := bxa.c 3 (.slice B1 M1 d1) rfl
          have kb_0 := bxb.c 0 (.int .i64 g2) rfl
          have kb_1 := bxb.c 1 (.slice A2 L2 c2) rfl
          have kb_2 := bxb.c 2 (.int .i64 h2) rfl
          have kb_3 := bxb.c 3 (.slice B2 M2 d2) rfl
          have kr_0 := bxr.c 0 (.int .i64 0) rfl
          have kr_1 := bxr.c 1 (.slice none 0 0) rfl
          have kr_2 := bxr.c 2 (.int .i64 0) rfl
          have kr_3 := bxr.c 3 (.slice none 0 0) rfl
          have kden_0 := bxden.c 0 (.int .i64 gdn) rfl
          have kden_1 := bxden.c 1 (.slice Adn Ldn cdn) rfl
          have kn_0 := bxn.c 0 (.int .i64 gn) rfl
          have kn_1 := bxn.c 1 (.slice An Ln cn) rfl
          have kx_0 := bxx.c 0 (.int .i64 gn) rfl
          have kx_1 := bxx.c 1 (.slice An Ln cn) rfl
          have kx_2 := bxx.c 2 (.int .i64 gdn) rfl
          have kx_3 := bxx.c 3 (.slice Adn Ldn cdn) rfl
          go_wp2_with fail
          clear ka_0 ka_1 ka_2 ka_3 kb_0 kb_1 kb_2 kb_3 kr_0 kr_1 kr_2 kr_3 kden_0 kden_1 kn_0 kn_1 kx_0 kx_1 kx_2 kx_3
          go_roundw
          case rel => exact ⟨d + 1, by go_num, by omega, by omega, by omega, (by with_reducible repeat' first | exact Ext.refl _ | assumption | apply Ext.alloc_r | apply Ext.drew_r | apply Ext.drewN_r | refine Ext.trans ?_ ‹Ext _ _›)⟩
          case measure => simp [intOf]; omega
        · obtain rfl : d = q.den := by omega
          have hC0 : ¬ 0 ≤ C := by rw [hC]; exact cmpQ_lt0 (by rw [← HN.out]; exact HQ.out.at_den)
          have HC := Lib.hid hC.symm
          clear hC
          refine (qcmp_e (HX.out _ (by with_reducible repeat' first | exact Ext.refl _ | assumption | apply Ext.alloc_r | apply Ext.drew_r | apply Ext.drewN_r | refine Ext.trans ?_ ‹Ext _ _›)) (HZ2.out.1.ext (by with_reducible repeat' first | exact Ext.refl _ | assumption | apply Ext.alloc_r | apply Ext.drew_r | apply Ext.drewN_r | refine Ext.trans ?_ ‹Ext _ _›)) (by omega) (by omega) HC.out).mono ?_
          rintro e w9 ⟨rfl, x9⟩
          have szw9 : w8.heap.size ≤ w9.heap.size := x9.size
          replace bxa := bxa.ext x9
          replace bxb := bxb.ext x9
          replace bxr := bxr.ext x9
          replace bxden := bxden.ext x9
          replace bxn := bxn.ext x9
          replace bxx := bxx.ext x9
          clear HC
          have ka_0 := bxa.c 0 (.int .i64 g1) rfl
          have ka_1 := bxa.c 1 (.slice A1 L1 c1) rfl
          have ka_2 := bxa.c 2 (.int .i64 h1) rfl
          have ka_3 := bxa.c 3 (.slice B1 M1 d1) rfl
          have kb_0 := bxb.c 0 (.int .i64 g2) rfl
          have kb_1 := bxb.c 1 (.slice A2 L2 c2) rfl
          have kb_2 := bxb.c 2 (.int .i64 h2) rfl
          have kb_3 := bxb.c 3 (.slice B2 M2 d2) rfl
          have kr_0 := bxr.c 0 (.int .i64 0) rfl
          have kr_1 := bxr.c 1 (.slice none 0 0) rfl
          have kr_2 := bxr.c 2 (.int .i64 0) rfl
          have kr_3 := bxr.c 3 (.slice none 0 0) rfl
          have kden_0 := bxden.c 0 (.int .i64 gdn) rfl
          have kden_1 := bxden.c 1 (.slice Adn Ldn cdn) rfl
          have kn_0 := bxn.c 0 (.int .i64 gn) rfl
          have kn_1 := bxn.c 1 (.slice An Ln cn) rfl
          have kx_0 := bxx.c 0 (.int .i64 gn) rfl
          have kx_1 := bxx.c 1 (.slice An Ln cn) rfl
          have kx_2 := bxx.c 2 (.int .i64 gdn) rfl
          have kx_3 := bxx.c 3 (.slice Adn Ldn cdn) rfl
          go_wp2_with fail
          clear ka_0 ka_1 ka_2 ka_3 kb_0 kb_1 kb_2 kb_3 kr_0 kr_1 kr_2 kr_3 kden_0 kden_1 kn_0 kn_1 kx_0 kx_1 kx_2 kx_3
          refine (small_rz (n := 1) (by omega)).mono ?_
          rintro e w10 ⟨gze, Aze, cze, Lze, rfl, ze, x10⟩
          have szw10 : w9.heap.size ≤ w10.heap.size := x10.size
          replace bxa := bxa.ext x10
          replace bxb := bxb.ext x10
          replace bxr := bxr.ext x10
          replace bxden := bxden.ext x10
          replace bxn := bxn.ext x10
          replace bxx := bxx.ext x10
          have HZE := Lib.hid ze
          clear ze
          have ka_0 := bxa.c 0 (.int .i64 g1) rfl
          have ka_1 := bxa.c 1 (.slice A1 L1 c1) rfl
          have ka_2 := bxa.c 2 (.int .i64 h1) rfl
          have ka_3 := bxa.c 3 (.slice B1 M1 d1) rfl
          have kb_0 := bxb.c 0 (.int .i64 g2) rfl
          have kb_1 := bxb.c 1 (.slice A2 L2 c2) rfl
          have kb_2 := bxb.c 2 (.int .i64 h2) rfl
          have kb_3 := bxb.c 3 (.slice B2 M2 d2) rfl
          have kr_0 := bxr.c 0 (.int .i64 0) rfl
          have kr_1 := bxr.c 1 (.slice none 0 0) rfl
          have kr_2 := bxr.c 2 (.int .i64 0) rfl
          have kr_3 := bxr.c 3 (.slice none 0 0) rfl
          have kden_0 := bxden.c 0 (.int .i64 gdn) rfl
          have kden_1 := bxden.c 1 (.slice Adn Ldn cdn) rfl
          have kn_0 := bxn.c 0 (.int .i64 gn) rfl
          have kn_1 := bxn.c 1 (.slice An Ln cn) rfl
          have kx_0 := bxx.c 0 (.int .i64 gn) rfl
          have kx_1 := bxx.c 1 (.slice An Ln cn) rfl
          have kx_2 := bxx.c 2 (.int .i64 gdn) rfl
          have kx_3 := bxx.c 3 (.slice Adn Ldn cdn) rfl
          have t1a_0 := fun (o0 : Obj) => ((Ext.alloc w10 o0).cell (bxa.c 0 (.int .i64 g1) rfl))
          have t1a_1 := fun (o0 : Obj) => ((Ext.alloc w10 o0).cell (bxa.c 1 (.slice A1 L1 c1) rfl))
          have t1a_2 := fun (o0 : Obj) => ((Ext.alloc w10 o0).cell (bxa.c 2 (.int .i64 h1) rfl))
          have t1a_3 := fun (o0 : Obj) => ((Ext.alloc w10 o0).cell (bxa.c 3 (.slice B1 M1 d1) rfl))
          have t1b_0 := fun (o0 : Obj) => ((Ext.alloc w10 o0).cell (bxb.c 0 (.int .i64 g2) rfl))
          have t1b_1 := fun (o0 : Obj) => ((Ext.alloc w10 o0).cell (bxb.c 1 (.slice A2 L2 c2) rfl))
          have t1b_2 := fun (o0 : Obj) => ((Ext.alloc w10 o0).cell (bxb.c 2 (.int .i64 h2) rfl))
          have t1b_3 := fun (o0 : Obj) => ((Ext.alloc w10 o0).cell (bxb.c 3 (.slice B2 M2 d2) rfl))
          have t1r_0 := fun (o0 : Obj) => ((Ext.alloc w10 o0).cell (bxr.c 0 (.int .i64 0) rfl))
          have t1r_1 := fun (o0 : Obj) => ((Ext.alloc w10 o0).cell (bxr.c 1 (.slice none 0 0) rfl))
          have t1r_2 := fun (o0 : Obj) => ((Ext.alloc w10 o0).cell (bxr.c 2 (.int .i64 0) rfl))
          have t1r_3 := fun (o0 : Obj) => ((Ext.alloc w10 o0).cell (bxr.c 3 (.slice none 0 0) rfl))
          have t1den_0 := fun (o0 : Obj) => ((Ext.alloc w10 o0).cell (bxden.c 0 (.int .i64 gdn) rfl))
          have t1den_1 := fun (o0 : Obj) => ((Ext.alloc w10 o0).cell (bxden.c 1 (.slice Adn Ldn cdn) rfl))
          have t1n_0 := fun (o0 : Obj) => ((Ext.alloc w10 o0).cell (bxn.c 0 (.int .i64 gn) rfl))
          have t1n_1 := fun (o0 : Obj) => ((Ext.alloc w10 o0).cell (bxn.c 1 (.slice An Ln cn) rfl))
          have t1x_0 := fun (o0 : Obj) => ((Ext.alloc w10 o0).cell (bxx.c 0 (.int .i64 gn) rfl))
          have t1x_1 := fun (o0 : Obj) => ((Ext.alloc w10 o0).cell (bxx.c 1 (.slice An Ln cn) rfl))
          have t1x_2 := fun (o0 : Obj) => ((Ext.alloc w10 o0).cell (bxx.c 2 (.int .i64 gdn) rfl))
          have t1x_3 := fun (o0 : Obj) => ((Ext.alloc w10 o0).cell (bxx.c 3 (.slice Adn Ldn cdn) rfl))
          go_wp2_with fail
          clear ka_0 ka_1 ka_2 ka_3 kb_0 kb_1 kb_2 kb_3 kr_0 kr_1 kr_2 kr_3 kden_0 kden_1 kn_0 kn_1 kx_0 kx_1 kx_2 kx_3 t1a_0 t1a_1 t1a_2 t1a_3 t1b_0 t1b_1 t1b_2 t1b_3 t1r_0 t1r_1 t1r_2 t1r_3 t1den_0 t1den_1 t1n_0 t1n_1 t1x_0 t1x_1 t1x_2 t1x_3
          obtain ⟨w11, hw⟩ : ∃ z : World, z = (w10.alloc (.cells #[.int .i64 0, .slice none 0 0, .int .i64 gze, .slice Aze Lze cze] 38)) := ⟨_, rfl⟩
          rw [← hw]
          have x11 : Ext w10 w11 := by rw [hw]; exact (Ext.alloc _ _)
          replace bxa := bxa.ext x11
          replace bxb := bxb.ext x11
          replace bxr := bxr.ext x11
          replace bxden := bxden.ext x11
          replace bxn := bxn.ext x11
          replace bxx := bxx.ext x11
          have bxze : BK w11 (w10.heap.size) 38 #[.int .i64 0, .slice none 0 0, .int .i64 gze, .slice Aze Lze cze] := by rw [hw]; have h5 := (BK.new w10 #[.int .i64 0, .slice none 0 0, .int .i64 gze, .slice Aze Lze cze] 38); simpa only [World.size_alloc] using h5
          have szw11 : w11.heap.size = w10.heap.size + 1 := by rw [hw]; simp only [World.size_alloc]
          clear hw
          have HZZ : Hid (∀ w', Ext w11 w' → QR w' 0 none 0 0 gze Aze cze Lze 1 0) := fun w' hx => qr_zero (HZE.out.ext ((show Ext _ w11 from (by with_reducible repeat' first | exact Ext.refl _ | assumption | apply Ext.alloc_r | apply Ext.drew_r | apply Ext.drewN_r | refine Ext.trans ?_ ‹Ext _ _›)).trans hx))
          obtain ⟨D, hD⟩ : ∃ D : Int, D = cmpQ q1 0 := ⟨_, rfl⟩
          obtain ⟨G, hG⟩ : ∃ G : Int, G = cmpQ 0 q2 := ⟨_, rfl⟩
          have gD : D < 0 ↔ q1 < 0 := by rw [hD]; exact cmpQ_lt0i
          have gG : G < 0 ↔ 0 < q2 := by rw [hG]; exact cmpQ_lt0i
          have HD := Lib.hid hD.symm
          have HG := Lib.hid hG.symm
          clear hD hG
          have hDD : D < 0 := gD.2 HH.out.1
          have hGG : G < 0 := gG.2 HH.out.2
          have HE : Hid ((0 : Rat) = q) := (isSimp_zero HH.out.1 HH.out.2).unique HQ.out
          clear gD gG HX HGN
          refine (qcmp_e (HZ1.out.ext (by with_reducible repeat' first | exact Ext.refl _ | assumption | apply Ext.alloc_r | apply Ext.drew_r | apply Ext.drewN_r | refine Ext.trans ?_ ‹Ext _ _›)) (HZZ.out _ (by with_reducible repeat' first | exact Ext.refl _ | assumption | apply Ext.alloc_r | apply Ext.drew_r | apply Ext.drewN_r | refine Ext.trans ?_ ‹Ext _ _›)) (by omega) (by omega) HD.out).mono ?_
          rintro e w12 ⟨rfl, x12⟩
          have szw12 : w11.heap.size ≤ w12.heap.size := x12.size
          replace bxa := bxa.ext x12
          replace bxb := bxb.ext x12
          replace bxr := bxr.ext x12
          replace bxden := bxden.ext x12
          replace bxn := bxn.ext x12
          replace bxx := bxx.ext x12
          replace bxze := bxze.ext x12
          have ka_0 := bxa.c 0 (.int .i64 g1) rfl
          have ka_1 := bxa.c 1 (.slice A1 L1 c1) rfl
          have ka_2 := bxa.c 2 (.int .i64 h1) rfl
          have ka_3 := bxa.c 3 (.slice B1 M1 d1) rfl
          have kb_0 := bxb.c 0 (.int .i64 g2) rfl
          have kb_1 := bxb.c 1 (.slice A2 L2 c2) rfl
          have kb_2 := bxb.c 2 (.int .i64 h2) rfl
          have kb_3 := bxb.c 3 (.slice B2 M2 d2) rfl
          have kr_0 := bxr.c 0 (.int .i64 0) rfl
          have kr_1 := bxr.c 1 (.slice none 0 0) rfl
          have kr_2 := bxr.c 2 (.int .i64 0) rfl
          have kr_3 := bxr.c 3 (.slice none 0 0) rfl
          have kden_0 := bxden.c 0 (.int .i64 gdn) rfl
          have kden_1 := bxden.c 1 (.slice Adn Ldn cdn) rfl
          have kn_0 := bxn.c 0 (.int .i64 gn) rfl
          have kn_1 := bxn.c 1 (.slice An Ln cn) rfl
          have kx_0 := bxx.c 0 (.int .i64 gn) rfl
          have kx_1 := bxx.c 1 (.slice An Ln cn) rfl
          have kx_2 := bxx.c 2 (.int .i64 gdn) rfl
          have kx_3 := bxx.c 3 (.slice Adn Ldn cdn) rfl
          have kze_0 := bxze.c 0 (.int .i64 0) rfl
          have kze_1 := bxze.c 1 (.slice none 0 0) rfl
          have kze_2 := bxze.c 2 (.int .i64 gze) rfl
          have kze_3 := bxze.c 3 (.slice Aze Lze cze) rfl
          go_wp2_with fail
          clear ka_0 ka_1 ka_2 ka_3 kb_0 kb_1 kb_2 kb_3 kr_0 kr_1 kr_2 kr_3 kden_0 kden_1 kn_0 kn_1 kx_0 kx_1 kx_2 kx_3 kze_0 kze_1 kze_2 kze_3
          refine (qcmp_e (HZZ.out _ (by with_reducible repeat' first | exact Ext.refl _ | assumption | apply Ext.alloc_r | apply Ext.drew_r | apply Ext.drewN_r | refine Ext.trans ?_ ‹Ext _ _›)) (HZ2.out.1.ext (by with_reducible repeat' first | exact Ext.refl _ | assumption | apply Ext.alloc_r | apply Ext.drew_r | apply Ext.drewN_r | refine Ext.trans ?_ ‹Ext _ _›)) (by omega) (by omega) HG.out).mono ?_
          rintro e w13 ⟨rfl, x13⟩
          have szw13 : w12.heap.size ≤ w13.heap.size := x13.size
          replace bxa := bxa.ext x13
          replace bxb := bxb.ext x13
          replace bxr := bxr.ext x13
          replace bxden := bxden.ext x13
          replace bxn := bxn.ext x13
          replace bxx := bxx.ext x13
          replace bxze := bxze.ext x13
          have hxq := HZZ.out _ (show Ext _ w13 from (by with_reducible repeat' first | exact Ext.refl _ | assumption | apply Ext.alloc_r | apply Ext.drew_r | apply Ext.drewN_r | refine Ext.trans ?_ ‹Ext _ _›))
          have ka_0 := bxa.c 0 (.int .i64 g1) rfl
          have ka_1 := bxa.c 1 (.slice A1 L1 c1) rfl
          have ka_2 := bxa.c 2 (.int .i64 h1) rfl
          have ka_3 := bxa.c 3 (.slice B1 M1 d1) rfl
          have kb_0 := bxb.c 0 (.int .i64 g2) rfl
          have kb_1 := bxb.c 1 (.slice A2 L2 c2) rfl
          have kb_2 := bxb.c 2 (.int .i64 h2) rfl
          have kb_3 := bxb.c 3 (.slice B2 M2 d2) rfl
          have kr_0 := bxr.c 0 (.int .i64 0) rfl
          have fr_0 := bxr.f 0
          have kr_1 := bxr.c 1 (.slice none 0 0) rfl
          have fr_1 := bxr.f 1
          have kr_2 := bxr.c 2 (.int .i64 0) rfl
          have fr_2 := bxr.f 2
          have kr_3 := bxr.c 3 (.slice none 0 0) rfl
          have fr_3 := bxr.f 3
          have kden_0 := bxden.c 0 (.int .i64 gdn) rfl
          have kden_1 := bxden.c 1 (.slice Adn Ldn cdn) rfl
          have kn_0 := bxn.c 0 (.int .i64 gn) rfl
          have kn_1 := bxn.c 1 (.slice An Ln cn) rfl
          have kx_0 := bxx.c 0 (.int .i64 gn) rfl
          have kx_1 := bxx.c 1 (.slice An Ln cn) rfl
          have kx_2 := bxx.c 2 (.int .i64 gdn) rfl
          have kx_3 := bxx.c 3 (.slice Adn Ldn cdn) rfl
          have kze_0 := bxze.c 0 (.int .i64 0) rfl
          have kze_1 := bxze.c 1 (.slice none 0 0) rfl
          have kze_2 := bxze.c 2 (.int .i64 gze) rfl
          have kze_3 := bxze.c 3 (.slice Aze Lze cze) rfl
          go_wp2_with fail
          clear ka_0 ka_1 ka_2 ka_3 kb_0 kb_1 kb_2 kb_3 kr_0 fr_0 kr_1 fr_1 kr_2 fr_2 kr_3 fr_3 kden_0 kden_1 kn_0 kn_1 kx_0 kx_1 kx_2 kx_3 kze_0 kze_1 kze_2 kze_3
          obtain ⟨w14, hw⟩ : ∃ z : World, z = ((((w13.setCell ⟨w.heap.size + 1 + 1, 0, none⟩ (.int .i64 0)).setCell ⟨w.heap.size + 1 + 1, 1, none⟩ (.slice none 0 0)).setCell ⟨w.heap.size + 1 + 1, 2, none⟩ (.int .i64 gze)).setCell ⟨w.heap.size + 1 + 1, 3, none⟩ (.slice Aze Lze cze)) := ⟨_, rfl⟩
          rw [← hw]
          have kw14 : Kept w13 w14 := by rw [hw]; exact (Kept.set_ (Kept.set_ (Kept.set_ (Kept.set_ (Kept.refl _) bxr.isBox plain_Q) (IsBox.set_ bxr.isBox) plain_Q) (IsBox.set_ (IsBox.set_ bxr.isBox)) plain_Q) (IsBox.set_ (IsBox.set_ (IsBox.set_ bxr.isBox))) plain_Q)
          have nba : BK w14 (w.heap.size) 38 #[.int .i64 g1, .slice A1 L1 c1, .int .i64 h1, .slice B1 M1 d1] := by rw [hw]; exact (BK.far (BK.far (BK.far (BK.far bxa (show w.heap.size ≠ w.heap.size + 1 + 1 by omega) 0 _) (show w.heap.size ≠ w.heap.size + 1 + 1 by omega) 1 _) (show w.heap.size ≠ w.heap.size + 1 + 1 by omega) 2 _) (show w.heap.size ≠ w.heap.size + 1 + 1 by omega) 3 _)
          have nbb : BK w14 (w.heap.size + 1) 38 #[.int .i64 g2, .slice A2 L2 c2, .int .i64 h2, .slice B2 M2 d2] := by rw [hw]; exact (BK.far (BK.far (BK.far (BK.far bxb (show w.heap.size + 1 ≠ w.heap.size + 1 + 1 by omega) 0 _) (show w.heap.size + 1 ≠ w.heap.size + 1 + 1 by omega) 1 _) (show w.heap.size + 1 ≠ w.heap.size + 1 + 1 by omega) 2 _) (show w.heap.size + 1 ≠ w.heap.size + 1 + 1 by omega) 3 _)
          have nbr : BK w14 (w.heap.size + 1 + 1) 38 #[.int .i64 0, .slice none 0 0, .int .i64 gze, .slice Aze Lze cze] := by rw [hw]; exact (BK.set (i := 3) (u := .slice Aze Lze cze) (vs' := #[.int .i64 0, .slice none 0 0, .int .i64 gze, .slice Aze Lze cze]) (BK.set (i := 2) (u := .int .i64 gze) (vs' := #[.int .i64 0, .slice none 0 0, .int .i64 gze, .slice none 0 0]) (BK.set (i := 1) (u := .slice none 0 0) (vs' := #[.int .i64 0, .slice none 0 0, .int .i64 0, .slice none 0 0]) (BK.set (i := 0) (u := .int .i64 0) (vs' := #[.int .i64 0, .slice none 0 0, .int .i64 0, .slice none 0 0]) bxr rfl) rfl) rfl) rfl)
          have nbden : BK w14 (w1.heap.size) 36 #[.int .i64 gdn, .slice Adn Ldn cdn] := by rw [hw]; exact (BK.far (BK.far (BK.far (BK.far bxden (show w1.heap.size ≠ w.heap.size + 1 + 1 by omega) 0 _) (show w1.heap.size ≠ w.heap.size + 1 + 1 by omega) 1 _) (show w1.heap.size ≠ w.heap.size + 1 + 1 by omega) 2 _) (show w1.heap.size ≠ w.heap.size + 1 + 1 by omega) 3 _)
          have nbn : BK w14 (b10) 36 #[.int .i64 gn, .slice An Ln cn] := by rw [hw]; exact (BK.far (BK.far (BK.far (BK.far bxn (show b10 ≠ w.heap.size + 1 + 1 by omega) 0 _) (show b10 ≠ w.heap.size + 1 + 1 by omega) 1 _) (show b10 ≠ w.heap.size + 1 + 1 by omega) 2 _) (show b10 ≠ w.heap.size + 1 + 1 by omega) 3 _)
          have nbx : BK w14 (wn.heap.size) 38 #[.int .i64 gn, .slice An Ln cn, .int .i64 gdn, .slice Adn Ldn cdn] := by rw [hw]; exact (BK.far (BK.far (BK.far (BK.far bxx (show wn.heap.size ≠ w.heap.size + 1 + 1 by omega) 0 _) (show wn.heap.size ≠ w.heap.size + 1 + 1 by omega) 1 _) (show wn.heap.size ≠ w.heap.size + 1 + 1 by omega) 2 _) (show wn.heap.size ≠ w.heap.size + 1 + 1 by omega) 3 _)
          have nbze : BK w14 (w10.heap.size) 38 #[.int .i64 0, .slice none 0 0, .int .i64 gze, .slice Aze Lze cze] := by rw [hw]; exact (BK.far (BK.far (BK.far (BK.far bxze (show w10.heap.size ≠ w.heap.size + 1 + 1 by omega) 0 _) (show w10.heap.size ≠ w.heap.size + 1 + 1 by omega) 1 _) (show w10.heap.size ≠ w.heap.size + 1 + 1 by omega) 2 _) (show w10.heap.size ≠ w.heap.size + 1 + 1 by omega) 3 _)
          have x14 : Ext w w14 := by rw [hw]; have hxp : Ext w w13 := (by with_reducible repeat' first | exact Ext.refl _ | assumption | apply Ext.alloc_r | apply Ext.drew_r | apply Ext.drewN_r | refine Ext.trans ?_ ‹Ext _ _›); exact (Ext.set_ (Ext.set_ (Ext.set_ (Ext.set_ hxp (show _ ≤ w.heap.size + 1 + 1 by omega)) (show _ ≤ w.heap.size + 1 + 1 by omega)) (show _ ≤ w.heap.size + 1 + 1 by omega)) (show _ ≤ w.heap.size + 1 + 1 by omega))
          clear bxa
          clear bxb
          clear bxr
          clear bxden
          clear bxn
          clear bxx
          clear bxze
          have bxa := nba
          clear nba
          have bxb := nbb
          clear nbb
          have bxr := nbr
          clear nbr
          have bxden := nbden
          clear nbden
          have bxn := nbn
          clear nbn
          have bxx := nbx
          clear nbx
          have bxze := nbze
          clear nbze
          have szw14 : w14.heap.size = w13.heap.size := by rw [hw]; simp
          replace hxq := (hxq.ext (by with_reducible repeat' first | exact Ext.refl _ | assumption | apply Ext.alloc_r | apply Ext.drew_r | apply Ext.drewN_r | refine Ext.trans ?_ ‹Ext _ _›)).kept kw14
          clear hw kw14
          have kr_0 := bxr.c 0 (.int .i64 0) rfl
          have kr_1 := bxr.c 1 (.slice none 0 0) rfl
          have kr_2 := bxr.c 2 (.int .i64 gze) rfl
          have kr_3 := bxr.c 3 (.slice Aze Lze cze) rfl
          refine bodyPost_ret (v := .tuple #[.agg #[.int .i64 0, .slice none 0 0, .int .i64 gze, .slice Aze Lze cze], .bool true]) (by simp [results, Try.results52, go_sem, kr_0, kr_1, kr_2, kr_3]) rfl ?_
          exact ⟨_, _, _, _, _, _, _, _, _, rfl, fun _ => by rw [← HE.out]; exact hxq.wide (by omega), x14⟩
    · skip
      have ka_0 := bxa.c 0 (.int .i64 g1) rfl
      have ka_1 := bxa.c 1 (.slice A1 L1 c1) rfl
      have ka_2 := bxa.c 2 (.int .i64 h1) rfl
      have ka_3 := bxa.c 3 (.slice B1 M1 d1) rfl
      have kb_0 := bxb.c 0 (.int .i64 g2) rfl
      have kb_1 := bxb.c 1 (.slice A2 L2 c2) rfl
      have kb_2 := bxb.c 2 (.int .i64 h2) rfl
      have kb_3 := bxb.c 3 (.slice B2 M2 d2) rfl
      have kr_0 := bxr.c 0 (.int .i64 0) rfl
      have fr_0 := bxr.f 0
      have kr_1 := bxr.c 1 (.slice none 0 0) rfl
      have fr_1 := bxr.f 1
      have kr_2 := bxr.c 2 (.int .i64 0) rfl
      have fr_2 := bxr.f 2
      have kr_3 := bxr.c 3 (.slice none 0 0) rfl
      have fr_3 := bxr.f 3
      go_wp2_with fail
      clear ka_0 ka_1 ka_2 ka_3 kb_0 kb_1 kb_2 kb_3 kr_0 fr_0 kr_1 fr_1 kr_2 fr_2 kr_3 fr_3
      obtain ⟨w15, hw⟩ : ∃ z : World, z = ((((wr.setCell ⟨w.heap.size + 1 + 1, 0, none⟩ (.int .i64 0)).setCell ⟨w.heap.size + 1 + 1, 1, none⟩ (.slice none 0 0)).setCell ⟨w.heap.size + 1 + 1, 2, none⟩ (.int .i64 0)).setCell ⟨w.heap.size + 1 + 1, 3, none⟩ (.slice none 0 0)) := ⟨_, rfl⟩
      rw [← hw]
      have kw15 : Kept wr w15 := by rw [hw]; exact (Kept.set_ (Kept.set_ (Kept.set_ (Kept.set_ (Kept.refl _) bxr.isBox plain_Q) (IsBox.set_ bxr.isBox) plain_Q) (IsBox.set_ (IsBox.set_ bxr.isBox)) plain_Q) (IsBox.set_ (IsBox.set_ (IsBox.set_ bxr.isBox))) plain_Q)
      have nba : BK w15 (w.heap.size) 38 #[.int .i64 g1, .slice A1 L1 c1, .int .i64 h1, .slice B1 M1 d1] := by rw [hw]; exact (BK.far (BK.far (BK.far (BK.far bxa (show w.heap.size ≠ w.heap.size + 1 + 1 by omega) 0 _) (show w.heap.size ≠ w.heap.size + 1 + 1 by omega) 1 _) (show w.heap.size ≠ w.heap.size + 1 + 1 by omega) 2 _) (show w.heap.size ≠ w.heap.size + 1 + 1 by omega) 3 _)
      have nbb : BK w15 (w.heap.size + 1) 38 #[.int .i64 g2, .slice A2 L2 c2, .int .i64 h2, .slice B2 M2 d2] := by rw [hw]; exact (BK.far (BK.far (BK.far (BK.far bxb (show w.heap.size + 1 ≠ w.heap.size + 1 + 1 by omega) 0 _) (show w.heap.size + 1 ≠ w.heap.size + 1 + 1 by omega) 1 _) (show w.heap.size + 1 ≠ w.heap.size + 1 + 1 by omega) 2 _) (show w.heap.size + 1 ≠ w.heap.size + 1 + 1 by omega) 3 _)
      have nbr : BK w15 (w.heap.size + 1 + 1) 38 #[.int .i64 0, .slice none 0 0, .int .i64 0, .slice none 0 0] := by rw [hw]; exact (BK.set (i := 3) (u := .slice none 0 0) (vs' := #[.int .i64 0, .slice none 0 0, .int .i64 0, .slice none 0 0]) (BK.set (i := 2) (u := .int .i64 0) (vs' := #[.int .i64 0, .slice none 0 0, .int .i64 0, .slice none 0 0]) (BK.set (i := 1) (u := .slice none 0 0) (vs' := #[.int .i64 0, .slice none 0 0, .int .i64 0, .slice none 0 0]) (BK.set (i := 0) (u := .int .i64 0) (vs' := #[.int .i64 0, .slice none 0 0, .int .i64 0, .slice none 0 0]) bxr rfl) rfl) rfl) rfl)
      have x15 : Ext w w15 := by rw [hw]; have hxp : Ext w wr := (by with_reducible repeat' first | exact Ext.refl _ | assumption | apply Ext.alloc_r | apply Ext.drew_r | apply Ext.drewN_r | refine Ext.trans ?_ ‹Ext _ _›); exact (Ext.set_ (Ext.set_ (Ext.set_ (Ext.set_ hxp (show _ ≤ w.heap.size + 1 + 1 by omega)) (show _ ≤ w.heap.size + 1 + 1 by omega)) (show _ ≤ w.heap.size + 1 + 1 by omega)) (show _ ≤ w.heap.size + 1 + 1 by omega))
      clear bxa
      clear bxb
      clear bxr
      have bxa := nba
      clear nba
      have bxb := nbb
      clear nbb
      have bxr := nbr
      clear nbr
      have szw15 : w15.heap.size = wr.heap.size := by rw [hw]; simp
      clear hw kw15
      have kr_0 := bxr.c 0 (.int .i64 0) rfl
      have kr_1 := bxr.c 1 (.slice none 0 0) rfl
      have kr_2 := bxr.c 2 (.int .i64 0) rfl
      have kr_3 := bxr.c 3 (.slice none 0 0) rfl
      refine bodyPost_ret (v := .tuple #[.agg #[.int .i64 0, .slice none 0 0, .int .i64 0, .slice none 0 0], .bool false]) (by simp [results, Try.results52, go_sem, kr_0, kr_1, kr_2, kr_3]) rfl ?_
      exact ⟨_, _, _, _, _, _, _, _, _, rfl, (fun h => by cases h), x15⟩
set_option maxHeartbeats 4000000 in
set_option maxRecDepth 100000 in
theorem qsimp_pos {w : World} {g1 h1 g2 h2 : Int} {A1 B1 A2 B2 : Option Addr} {c1 d1 L1 M1 c2 d2 L2 M2 K : Nat} {q1 q2 q : Rat} (z1 : QR w g1 A1 c1 L1 h1 B1 d1 M1 K q1) (z2 : QR w g2 A2 c2 L2 h2 B2 d2 M2 K q2) (hK : K ≤ 1000) (hq : IsSimp q1 q2 q) (hh : ¬ q1 < 0) :
    Calls Try.prog 52 #[Value.agg #[Value.int IntKind.i64 g1, Value.slice A1 L1 c1, Value.int IntKind.i64 h1, Value.slice B1 M1 d1], Value.agg #[Value.int IntKind.i64 g2, Value.slice A2 L2 c2, Value.int IntKind.i64 h2, Value.slice B2 M2 d2], .int .i64 200] w (RetQB w (K + 20) q) := by
  obtain ⟨n1, n2⟩ := qr_bl z1
  obtain ⟨X, Y, p1, p2, p3, p4, p5, p6⟩ := z2.ex
  have hqd := q.den_pos
  have HZ1 := Lib.hid z1
  have HZ2 := Lib.hid (And.intro z2 (And.intro p1 p2))
  have HQ := Lib.hid hq
  have HB := Lib.hid p4
  have HH := Lib.hid hh
  clear z1 z2 hq p1 p2 p4 hh
  go_enter Try.func52, Try.ntmps52
  go_wp2_with fail
  obtain ⟨w0, hw0⟩ : ∃ z : World, z = (((w.alloc (.cells #[.int .i64 g1, .slice A1 L1 c1, .int .i64 h1, .slice B1 M1 d1] 38)).alloc (.cells #[.int .i64 g2, .slice A2 L2 c2, .int .i64 h2, .slice B2 M2 d2] 38)).alloc (.cells #[.int .i64 0, .slice none 0 0, .int .i64 0, .slice none 0 0] 38)) := ⟨_, rfl⟩
  rw [← hw0]
  have bxa : BK w0 (w.heap.size) 38 #[.int .i64 g1, .slice A1 L1 c1, .int .i64 h1, .slice B1 M1 d1] := by rw [hw0]; have h5 := (BK.ext (BK.ext (BK.new w #[.int .i64 g1, .slice A1 L1 c1, .int .i64 h1, .slice B1 M1 d1] 38) (Ext.alloc _ (.cells #[.int .i64 g2, .slice A2 L2 c2, .int .i64 h2, .slice B2 M2 d2] 38))) (Ext.alloc _ (.cells #[.int .i64 0, .slice none 0 0, .int .i64 0, .slice none 0 0] 38))); simpa only [World.size_alloc] using h5
  have bxb : BK w0 (w.heap.size + 1) 38 #[.int .i64 g2, .slice A2 L2 c2, .int .i64 h2, .slice B2 M2 d2] := by rw [hw0]; have h5 := (BK.ext (BK.new (w.alloc (.cells #[.int .i64 g1, .slice A1 L1 c1, .int .i64 h1, .slice B1 M1 d1] 38)) #[.int .i64 g2, .slice A2 L2 c2, .int .i64 h2, .slice B2 M2 d2] 38) (Ext.alloc _ (.cells #[.int .i64 0, .slice none 0 0, .int .i64 0, .slice none 0 0] 38))); simpa only [World.size_alloc] using h5
  have bxr : BK w0 (w.heap.size + 1 + 1) 38 #[.int .i64 0, .slice none 0 0, .int .i64 0, .slice none 0 0] := by rw [hw0]; have h5 := (BK.new ((w.alloc (.cells #[.int .i64 g1, .slice A1 L1 c1, .int .i64 h1, .slice B1 M1 d1] 38)).alloc (.cells #[.int .i64 g2, .slice A2 L2 c2, .int .i64 h2, .slice B2 M2 d2] 38)) #[.int .i64 0, .slice none 0 0, .int .i64 0, .slice none 0 0] 38); simpa only [World.size_alloc] using h5
  have hszw0 : w0.heap.size = w.heap.size + 1 + 1 + 1 := by rw [hw0]; simp only [World.size_alloc]
  have xw0 : Ext w w0 := by rw [hw0]; exact (((Ext.alloc _ _).trans (Ext.alloc _ _)).trans (Ext.alloc _ _))
  clear hw0
  have HBX := Lib.hid (And.intro bxa (And.intro bxb bxr))
  clear bxa bxb bxr
  go_loopw [8] (fun dv wr => ∃ d : Nat, dv = .int .i64 d ∧ 1 ≤ d ∧ d ≤ q.den ∧ d ≤ 201 ∧ Ext w0 wr) (fun dv _ => 201 - (intOf dv).toNat)
  case atStart => exact ⟨1, rfl, by omega, by omega, by omega, Ext.refl _⟩
  case round =>
    obtain ⟨d, rfl, hd1, hdq, hd2, hx⟩ := hrel
    have hszr := hx.size
    have bxa := HBX.out.1.ext hx
    have bxb := HBX.out.2.1.ext hx
    have bxr := HBX.out.2.2.ext hx
    have xwr : Ext w wr := xw0.trans hx
    by_cases hle : d ≤ 200
    · have b8 := bl_200 hle
      have b9 := bl_nup n1 b8
      have HNU := Lib.hid (nup_eq q1 d)
      obtain ⟨n, hn⟩ : ∃ n : Int, nup q1 d = n := ⟨_, rfl⟩
      rw [hn] at b9 HNU
      have HN := Lib.hid hn
      clear hn
      have u1 : bl (1 : Int).natAbs ≤ 1 := bl_one1
      have u2 : bl ((d : Int)).natAbs ≤ 8 := by rw [bl_nat]; exact b8
      have ka_0 := bxa.c 0 (.int .i64 g1) rfl
      have ka_1 := bxa.c 1 (.slice A1 L1 c1) rfl
      have ka_2 := bxa.c 2 (.int .i64 h1) rfl
      have ka_3 := bxa.c 3 (.slice B1 M1 d1) rfl
      have kb_0 := bxb.c 0 (.int .i64 g2) rfl
      have kb_1 := bxb.c 1 (.slice A2 L2 c2) rfl
      have kb_2 := bxb.c 2 (.int .i64 h2) rfl
      have kb_3 := bxb.c 3 (.slice B2 M2 d2) rfl
      have kr_0 := bxr.c 0 (.int .i64 0) rfl
      have kr_1 := bxr.c 1 (.slice none 0 0) rfl
      have kr_2 := bxr.c 2 (.int .i64 0) rfl
      have kr_3 := bxr.c 3 (.slice none 0 0) rfl
      go_wp2_with fail
      clear ka_0 ka_1 ka_2 ka_3 kb_0 kb_1 kb_2 kb_3 kr_0 kr_1 kr_2 kr_3
      refine (small_rz (n := (d : Int)) (by omega)).mono ?_
      rintro e w1 ⟨gdn, Adn, cdn, Ldn, rfl, dn, x1⟩
      have szw1 : wr.heap.size ≤ w1.heap.size := x1.size
      replace bxa := bxa.ext x1
      replace bxb := bxb.ext x1
      replace bxr := bxr.ext x1
      have HDN := Lib.hid dn
      clear dn
      have ka_0 := bxa.c 0 (.int .i64 g1) rfl
      have ka_1 := bxa.c 1 (.slice A1 L1 c1) rfl
      have ka_2 := bxa.c 2 (.int .i64 h1) rfl
      have ka_3 := bxa.c 3 (.slice B1 M1 d1) rfl
      have kb_0 := bxb.c 0 (.int .i64 g2) rfl
      have kb_1 := bxb.c 1 (.slice A2 L2 c2) rfl
      have kb_2 := bxb.c 2 (.int .i64 h2) rfl
      have kb_3 := bxb.c 3 (.slice B2 M2 d2) rfl
      have kr_0 := bxr.c 0 (.int .i64 0) rfl
      have kr_1 := bxr.c 1 (.slice none 0 0) rfl
      have kr_2 := bxr.c 2 (.int .i64 0) rfl
      have kr_3 := bxr.c 3 (.slice none 0 0) rfl
      have t1a_0 := fun (o0 : Obj) => ((Ext.alloc w1 o0).cell (bxa.c 0 (.int .i64 g1) rfl))
      have t1a_1 := fun (o0 : Obj) => ((Ext.alloc w1 o0).cell (bxa.c 1 (.slice A1 L1 c1) rfl))
      have t1a_2 := fun (o0 : Obj) => ((Ext.alloc w1 o0).cell (bxa.c 2 (.int .i64 h1) rfl))
      have t1a_3 := fun (o0 : Obj) => ((Ext.alloc w1 o0).cell (bxa.c 3 (.slice B1 M1 d1) rfl))
      have t1b_0 := fun (o0 : Obj) => ((Ext.alloc w1 o0).cell (bxb.c 0 (.int .i64 g2) rfl))
      have t1b_1 := fun (o0 : Obj) => ((Ext.alloc w1 o0).cell (bxb.c 1 (.slice A2 L2 c2) rfl))
      have t1b_2 := fun (o0 : Obj) => ((Ext.alloc w1 o0).cell (bxb.c 2 (.int .i64 h2) rfl))
      have t1b_3 := fun (o0 : Obj) => ((Ext.alloc w1 o0).cell (bxb.c 3 (.slice B2 M2 d2) rfl))
      have t1r_0 := fun (o0 : Obj) => ((Ext.alloc w1 o0).cell (bxr.c 0 (.int .i64 0) rfl))
      have t1r_1 := fun (o0 : Obj) => ((Ext.alloc w1 o0).cell (bxr.c 1 (.slice none 0 0) rfl))
      have t1r_2 := fun (o0 : Obj) => ((Ext.alloc w1 o0).cell (bxr.c 2 (.int .i64 0) rfl))
      have t1r_3 := fun (o0 : Obj) => ((Ext.alloc w1 o0).cell (bxr.c 3 (.slice none 0 0) rfl))
      go_wp2_with fail
      clear ka_0 ka_1 ka_2 ka_3 kb_0 kb_1 kb_2 kb_3 kr_0 kr_1 kr_2 kr_3 t1a_0 t1a_1 t1a_2 t1a_3 t1b_0 t1b_1 t1b_2 t1b_3 t1r_0 t1r_1 t1r_2 t1r_3
      obtain ⟨w2, hw⟩ : ∃ z : World, z = (w1.alloc (.cells #[.int .i64 gdn, .slice Adn Ldn cdn] 36)) := ⟨_, rfl⟩
      rw [← hw]
      have x2 : Ext w1 w2 := by rw [hw]; exact (Ext.alloc _ _)
      replace bxa := bxa.ext x2
      replace bxb := bxb.ext x2
      replace bxr := bxr.ext x2
      have bxden : BK w2 (w1.heap.size) 36 #[.int .i64 gdn, .slice Adn Ldn cdn] := by rw [hw]; have h5 := (BK.new w1 #[.int .i64 gdn, .slice Adn Ldn cdn] 36); simpa only [World.size_alloc] using h5
      have szw2 : w2.heap.size = w1.heap.size + 1 := by rw [hw]; simp only [World.size_alloc]
      clear hw
      have ka_0 := bxa.c 0 (.int .i64 g1) rfl
      have ka_1 := bxa.c 1 (.slice A1 L1 c1) rfl
      have ka_2 := bxa.c 2 (.int .i64 h1) rfl
      have ka_3 := bxa.c 3 (.slice B1 M1 d1) rfl
      have kden_0 := bxden.c 0 (.int .i64 gdn) rfl
      have kden_1 := bxden.c 1 (.slice Adn Ldn cdn) rfl
      have HSZ := Lib.hid (And.intro True.intro (And.intro hszw0 (And.intro hszr (And.intro szw1 szw2))))
      clear hszw0 hszr szw1 szw2
      go_wp2_with fail
      go_cut [10] (fun s10 wx => PutZK w2 wx n s10)
      case first =>
        have HK : Hid (∀ w', Ext w2 w' → Ext w2 w' ∧ w'.cell? ⟨w.heap.size, 0, none⟩ = some (.int .i64 g1) ∧ w'.cell? ⟨w.heap.size, 1, none⟩ = some (.slice A1 L1 c1) ∧ w'.cell? ⟨w.heap.size, 2, none⟩ = some (.int .i64 h1) ∧ w'.cell? ⟨w.heap.size, 3, none⟩ = some (.slice B1 M1 d1) ∧ w'.cell? ⟨w1.heap.size, 0, none⟩ = some (.int .i64 gdn) ∧ w'.cell? ⟨w1.heap.size, 1, none⟩ = some (.slice Adn Ldn cdn)) := fun w' hk => ⟨hk, hk.cell ka_0, hk.cell ka_1, hk.cell ka_2, hk.cell ka_3, hk.cell kden_0, hk.cell kden_1⟩
        first
        | go_region_held3 (fun w' => Ext w2 w' ∧ w'.cell? ⟨w.heap.size, 0, none⟩ = some (.int .i64 g1) ∧ w'.cell? ⟨w.heap.size, 1, none⟩ = some (.slice A1 L1 c1) ∧ w'.cell? ⟨w.heap.size, 2, none⟩ = some (.int .i64 h1) ∧ w'.cell? ⟨w.heap.size, 3, none⟩ = some (.slice B1 M1 d1) ∧ w'.cell? ⟨w1.heap.size, 0, none⟩ = some (.int .i64 gdn) ∧ w'.cell? ⟨w1.heap.size, 1, none⟩ = some (.slice Adn Ldn cdn))
            ((with_reducible refine HK.out _ ?_; (repeat' (first | with_reducible exact Ext.refl _ | with_reducible assumption | with_reducible apply Ext.alloc_r | with_reducible apply Ext.drew_r | with_reducible apply Ext.drewN_r | with_reducible apply Ext.set_r | with_reducible exact Nat.le_refl _ | omega | with_reducible refine Ext.trans ?_ ‹Ext _ _›))))
            (first
              | (go_at_call 83; have hgd := ob; clear hgd; refine (toRZ HNU.out (add_rz (f.ext (by with_reducible repeat' first | exact Ext.refl _ | assumption | apply Ext.alloc_r | apply Ext.drew_r | apply Ext.drewN_r | refine Ext.trans ?_ ‹Ext _ _›)) (ob.ext (by with_reducible repeat' first | exact Ext.refl _ | assumption | apply Ext.alloc_r | apply Ext.drew_r | apply Ext.drewN_r | refine Ext.trans ?_ ‹Ext _ _›)) (floor_bd n1 hK b8) (by omega))).mono ?_; rintro e w7 ⟨gt, At, ct, Lt, rfl, t, x7⟩; (have zs7 := x7.size); (try simp only [World.size_alloc] at zs7); (try ((with_reducible have h7_0 := box_ext (vs := #[.int .i64 0, .slice none 0 0]) x7); have h7_0c0 := (h7_0.1 0 (.int .i64 0) rfl).1; have h7_0f0 := (h7_0.1 0 (.int .i64 0) rfl).2; have h7_0c1 := (h7_0.1 1 (.slice none 0 0) rfl).1; have h7_0f1 := (h7_0.1 1 (.slice none 0 0) rfl).2; have h7_0b := h7_0.2.1; have h7_0z := h7_0.2.2; (try simp only [World.size_alloc] at h7_0b h7_0z h7_0c0 h7_0f0 h7_0c1 h7_0f1); have h7_0m := Nat.ne_of_lt h7_0z; have h7_0n := Nat.ne_of_gt h7_0z; clear h7_0)); (try (have hh : Ext w3 w7 := ?g700; (case g700 => ((with_reducible repeat' first | exact Ext.refl _ | assumption | apply Ext.alloc_r | apply Ext.drew_r | apply Ext.drewN_r | refine Ext.trans ?_ ‹Ext _ _›); done)); replace h3_0f0 := hh.frozen h3_0c0 h3_0f0; replace h3_0c0 := hh.cell h3_0c0; replace h3_0f1 := hh.frozen h3_0c1 h3_0f1; replace h3_0c1 := hh.cell h3_0c1; replace h3_0b := h3_0b.ext hh; have h3_0z2 := Nat.lt_of_lt_of_le h3_0z hh.size; have h3_0m2 := Nat.ne_of_lt h3_0z2; have h3_0n2 := Nat.ne_of_gt h3_0z2; clear hh)); (try (have hh : Ext w4 w7 := ?g710; (case g710 => ((with_reducible repeat' first | exact Ext.refl _ | assumption | apply Ext.alloc_r | apply Ext.drew_r | apply Ext.drewN_r | refine Ext.trans ?_ ‹Ext _ _›); done)); replace h4_0f0 := hh.frozen h4_0c0 h4_0f0; replace h4_0c0 := hh.cell h4_0c0; replace h4_0f1 := hh.frozen h4_0c1 h4_0f1; replace h4_0c1 := hh.cell h4_0c1; replace h4_0b := h4_0b.ext hh; have h4_0z2 := Nat.lt_of_lt_of_le h4_0z hh.size; have h4_0m2 := Nat.ne_of_lt h4_0z2; have h4_0n2 := Nat.ne_of_gt h4_0z2; clear hh)); (try (have hh : Ext w5 w7 := ?g720; (case g720 => ((with_reducible repeat' first | exact Ext.refl _ | assumption | apply Ext.alloc_r | apply Ext.drew_r | apply Ext.drewN_r | refine Ext.trans ?_ ‹Ext _ _›); done)); replace h5_0f0 := hh.frozen h5_0c0 h5_0f0; replace h5_0c0 := hh.cell h5_0c0; replace h5_0f1 := hh.frozen h5_0c1 h5_0f1; replace h5_0c1 := hh.cell h5_0c1; replace h5_0b := h5_0b.ext hh; have h5_0z2 := Nat.lt_of_lt_of_le h5_0z hh.size; have h5_0m2 := Nat.ne_of_lt h5_0z2; have h5_0n2 := Nat.ne_of_gt h5_0z2; clear hh)); (try (have hh : Ext w6 w7 := ?g730; (case g730 => ((with_reducible repeat' first | exact Ext.refl _ | assumption | apply Ext.alloc_r | apply Ext.drew_r | apply Ext.drewN_r | refine Ext.trans ?_ ‹Ext _ _›); done)); replace h6_0f0 := hh.frozen h6_0c0 h6_0f0; replace h6_0c0 := hh.cell h6_0c0; replace h6_0f1 := hh.frozen h6_0c1 h6_0f1; replace h6_0c1 := hh.cell h6_0c1; replace h6_0b := h6_0b.ext hh; have h6_0z2 := Nat.lt_of_lt_of_le h6_0z hh.size; have h6_0m2 := Nat.ne_of_lt h6_0z2; have h6_0n2 := Nat.ne_of_gt h6_0z2; clear hh)))
              | (go_at_call 20; have hgd := f; clear hgd; refine (small_rz (n := 1) (by omega)).mono ?_; rintro e w6 ⟨gob, Aob, cob, Lob, rfl, ob, x6⟩; (have zs6 := x6.size); (try simp only [World.size_alloc] at zs6); (try ((with_reducible have h6_0 := box_ext (vs := #[.int .i64 0, .slice none 0 0]) x6); have h6_0c0 := (h6_0.1 0 (.int .i64 0) rfl).1; have h6_0f0 := (h6_0.1 0 (.int .i64 0) rfl).2; have h6_0c1 := (h6_0.1 1 (.slice none 0 0) rfl).1; have h6_0f1 := (h6_0.1 1 (.slice none 0 0) rfl).2; have h6_0b := h6_0.2.1; have h6_0z := h6_0.2.2; (try simp only [World.size_alloc] at h6_0b h6_0z h6_0c0 h6_0f0 h6_0c1 h6_0f1); have h6_0m := Nat.ne_of_lt h6_0z; have h6_0n := Nat.ne_of_gt h6_0z; clear h6_0)))
              | (go_at_call 28; have hgd := m; clear hgd; refine (qfloor_r (m.ext (by with_reducible repeat' first | exact Ext.refl _ | assumption | apply Ext.alloc_r | apply Ext.drew_r | apply Ext.drewN_r | refine Ext.trans ?_ ‹Ext _ _›)) (by omega)).mono ?_; rintro e w5 ⟨gf, Af, cf, Lf, rfl, f, x5⟩; (have zs5 := x5.size); (try simp only [World.size_alloc] at zs5); (try ((with_reducible have h5_0 := box_ext (vs := #[.int .i64 0, .slice none 0 0]) x5); have h5_0c0 := (h5_0.1 0 (.int .i64 0) rfl).1; have h5_0f0 := (h5_0.1 0 (.int .i64 0) rfl).2; have h5_0c1 := (h5_0.1 1 (.slice none 0 0) rfl).1; have h5_0f1 := (h5_0.1 1 (.slice none 0 0) rfl).2; have h5_0b := h5_0.2.1; have h5_0z := h5_0.2.2; (try simp only [World.size_alloc] at h5_0b h5_0z h5_0c0 h5_0f0 h5_0c1 h5_0f1); have h5_0m := Nat.ne_of_lt h5_0z; have h5_0n := Nat.ne_of_gt h5_0z; clear h5_0)))
              | (go_at_call 37; have hgd := oa; clear hgd; refine (qmul_r (HZ1.out.ext (by with_reducible repeat' first | exact Ext.refl _ | assumption | apply Ext.alloc_r | apply Ext.drew_r | apply Ext.drewN_r | refine Ext.trans ?_ ‹Ext _ _›)) (qr_int (K := 8) (HDN.out.ext (by with_reducible repeat' first | exact Ext.refl _ | assumption | apply Ext.alloc_r | apply Ext.drew_r | apply Ext.drewN_r | refine Ext.trans ?_ ‹Ext _ _›)) (oa.ext (by with_reducible repeat' first | exact Ext.refl _ | assumption | apply Ext.alloc_r | apply Ext.drew_r | apply Ext.drewN_r | refine Ext.trans ?_ ‹Ext _ _›)) (by omega) (by omega)) (by omega) (by omega)).mono ?_; rintro e w4 ⟨gm, Am, cm, Lm, hm, Bm, dm, Mm, rfl, m, x4⟩; (have zs4 := x4.size); (try simp only [World.size_alloc] at zs4); (try ((with_reducible have h4_0 := box_ext (vs := #[.int .i64 0, .slice none 0 0]) x4); have h4_0c0 := (h4_0.1 0 (.int .i64 0) rfl).1; have h4_0f0 := (h4_0.1 0 (.int .i64 0) rfl).2; have h4_0c1 := (h4_0.1 1 (.slice none 0 0) rfl).1; have h4_0f1 := (h4_0.1 1 (.slice none 0 0) rfl).2; have h4_0b := h4_0.2.1; have h4_0z := h4_0.2.2; (try simp only [World.size_alloc] at h4_0b h4_0z h4_0c0 h4_0f0 h4_0c1 h4_0f1); have h4_0m := Nat.ne_of_lt h4_0z; have h4_0n := Nat.ne_of_gt h4_0z; clear h4_0)))
              | (go_at_call 20; refine (small_rz (n := 1) (by omega)).mono ?_; rintro e w3 ⟨goa, Aoa, coa, Loa, rfl, oa, x3⟩; (have zs3 := x3.size); (try simp only [World.size_alloc, World.size_drew] at zs3); (try ((with_reducible have h3_0 := box_ext (vs := #[.int .i64 0, .slice none 0 0]) ((Ext.drew _).trans x3)); have h3_0c0 := (h3_0.1 0 (.int .i64 0) rfl).1; have h3_0f0 := (h3_0.1 0 (.int .i64 0) rfl).2; have h3_0c1 := (h3_0.1 1 (.slice none 0 0) rfl).1; have h3_0f1 := (h3_0.1 1 (.slice none 0 0) rfl).2; have h3_0b := h3_0.2.1; have h3_0z := h3_0.2.2; (try simp only [World.size_alloc] at h3_0b h3_0z h3_0c0 h3_0f0 h3_0c1 h3_0f1); have h3_0m := Nat.ne_of_lt h3_0z; have h3_0n := Nat.ne_of_gt h3_0z; clear h3_0))))
        | fail
        all_goals (clear HK; go_wp2_with fail; go_meet)
        all_goals
          refine PutZK.mk (g := gt) (A := At) (c := ct) (L := Lt) ?_ ?_ (t.kept ?_) ?_
          · (first | exact Nat.le_refl _ | omega | (simp only [World.size_alloc, World.size_drew]; omega) | (simp; omega))
          · (repeat' (first | with_reducible assumption | with_reducible apply BK.set2z | (with_reducible apply BK.far2z; (case hne => (first | assumption | omega | (simp; done) | (simp only [World.size_alloc, World.size_drew]; omega)))) | (with_reducible apply BK.far2z; (case hne => (first | assumption | omega | (simp; done) | (simp only [World.size_alloc, World.size_drew]; omega)))) | (with_reducible apply BK.new_z; (first | rfl | (simp; done))) | with_reducible apply BK.alloc_z | with_reducible apply BK.drew_z | with_reducible refine BK.ext ?_ ‹Ext _ _›))
          · (repeat' (first | with_reducible exact Kept.refl _ | with_reducible apply Kept.alloc_r | with_reducible apply Kept.drew_r | (with_reducible apply Kept.setZ; (case hb => ((repeat' (first | with_reducible assumption | with_reducible apply IsBox.set_ | (with_reducible apply IsBox.new; (first | (with_reducible rfl) | simp); done) | with_reducible apply IsBox.alloc_ | with_reducible apply IsBox.drew_ | with_reducible refine IsBox.ext ?_ ‹Ext _ _›)); done))) | with_reducible refine Kept.trans ?_ (Ext.kept ‹Ext _ _›)))
          · (repeat' (first | with_reducible exact Ext.refl _ | with_reducible assumption | with_reducible apply Ext.alloc_r | with_reducible apply Ext.drew_r | with_reducible apply Ext.drewN_r | with_reducible apply Ext.set_r | with_reducible exact Nat.le_refl _ | omega | with_reducible refine Ext.trans ?_ ‹Ext _ _›))
      case rest =>
        obtain ⟨hszw0, hszr, szw1, szw2⟩ := HSZ.out.2
        clear ka_0 ka_1 ka_2 ka_3 kden_0 kden_1
        obtain ⟨b10, gn, An, cn, Ln, rfl, hb10, bxn, nn, hxc⟩ := hcut
        obtain ⟨wn, rfl⟩ : ∃ z : World, z = wc := ⟨_, rfl⟩
        have szwn : w2.heap.size ≤ wn.heap.size := hxc.size
        replace bxa := bxa.ext hxc
        replace bxb := bxb.ext hxc
        replace bxr := bxr.ext hxc
        replace bxden := bxden.ext hxc
        have hl10 := bxn.lt
        have HNN := Lib.hid nn
        have HGN : Hid (gn = n.sign) := nn.sign
        clear nn
        have ka_0 := bxa.c 0 (.int .i64 g1) rfl
        have ka_1 := bxa.c 1 (.slice A1 L1 c1) rfl
        have ka_2 := bxa.c 2 (.int .i64 h1) rfl
        have ka_3 := bxa.c 3 (.slice B1 M1 d1) rfl
        have kb_0 := bxb.c 0 (.int .i64 g2) rfl
        have kb_1 := bxb.c 1 (.slice A2 L2 c2) rfl
        have kb_2 := bxb.c 2 (.int .i64 h2) rfl
        have kb_3 := bxb.c 3 (.slice B2 M2 d2) rfl
        have kr_0 := bxr.c 0 (.int .i64 0) rfl
        have kr_1 := bxr.c 1 (.slice none 0 0) rfl
        have kr_2 := bxr.c 2 (.int .i64 0) rfl
        have kr_3 := bxr.c 3 (.slice none 0 0) rfl
        have kden_0 := bxden.c 0 (.int .i64 gdn) rfl
        have kden_1 := bxden.c 1 (.slice Adn Ldn cdn) rfl
        have kn_0 := bxn.c 0 (.int .i64 gn) rfl
        have kn_1 := bxn.c 1 (.slice An Ln cn) rfl
        have t1a_0 := fun (o0 : Obj) => ((Ext.alloc wn o0).cell (bxa.c 0 (.int .i64 g1) rfl))
        have t1a_1 := fun (o0 : Obj) => ((Ext.alloc wn o0).cell (bxa.c 1 (.slice A1 L1 c1) rfl))
        have t1a_2 := fun (o0 : Obj) => ((Ext.alloc wn o0).cell (bxa.c 2 (.int .i64 h1) rfl))
        have t1a_3 := fun (o0 : Obj) => ((Ext.alloc wn o0).cell (bxa.c 3 (.slice B1 M1 d1) rfl))
        have t1b_0 := fun (o0 : Obj) => ((Ext.alloc wn o0).cell (bxb.c 0 (.int .i64 g2) rfl))
        have t1b_1 := fun (o0 : Obj) => ((Ext.alloc wn o0).cell (bxb.c 1 (.slice A2 L2 c2) rfl))
        have t1b_2 := fun (o0 : Obj) => ((Ext.alloc wn o0).cell (bxb.c 2 (.int .i64 h2) rfl))
        have t1b_3 := fun (o0 : Obj) => ((Ext.alloc wn o0).cell (bxb.c 3 (.slice B2 M2 d2) rfl))
        have t1r_0 := fun (o0 : Obj) => ((Ext.alloc wn o0).cell (bxr.c 0 (.int .i64 0) rfl))
        have t1r_1 := fun (o0 : Obj) => ((Ext.alloc wn o0).cell (bxr.c 1 (.slice none 0 0) rfl))
        have t1r_2 := fun (o0 : Obj) => ((Ext.alloc wn o0).cell (bxr.c 2 (.int .i64 0) rfl))
        have t1r_3 := fun (o0 : Obj) => ((Ext.alloc wn o0).cell (bxr.c 3 (.slice none 0 0) rfl))
        have t1den_0 := fun (o0 : Obj) => ((Ext.alloc wn o0).cell (bxden.c 0 (.int .i64 gdn) rfl))
        have t1den_1 := fun (o0 : Obj) => ((Ext.alloc wn o0).cell (bxden.c 1 (.slice Adn Ldn cdn) rfl))
        have t1n_0 := fun (o0 : Obj) => ((Ext.alloc wn o0).cell (bxn.c 0 (.int .i64 gn) rfl))
        have t1n_1 := fun (o0 : Obj) => ((Ext.alloc wn o0).cell (bxn.c 1 (.slice An Ln cn) rfl))
        go_wp2_with fail
        clear ka_0 ka_1 ka_2 ka_3 kb_0 kb_1 kb_2 kb_3 kr_0 kr_1 kr_2 kr_3 kden_0 kden_1 kn_0 kn_1 t1a_0 t1a_1 t1a_2 t1a_3 t1b_0 t1b_1 t1b_2 t1b_3 t1r_0 t1r_1 t1r_2 t1r_3 t1den_0 t1den_1 t1n_0 t1n_1
        obtain ⟨w8, hw⟩ : ∃ z : World, z = (wn.alloc (.cells #[.int .i64 gn, .slice An Ln cn, .int .i64 gdn, .slice Adn Ldn cdn] 38)) := ⟨_, rfl⟩
        rw [← hw]
        have x8 : Ext wn w8 := by rw [hw]; exact (Ext.alloc _ _)
        replace bxa := bxa.ext x8
        replace bxb := bxb.ext x8
        replace bxr := bxr.ext x8
        replace bxden := bxden.ext x8
        replace bxn := bxn.ext x8
        have bxx : BK w8 (wn.heap.size) 38 #[.int .i64 gn, .slice An Ln cn, .int .i64 gdn, .slice Adn Ldn cdn] := by rw [hw]; have h5 := (BK.new wn #[.int .i64 gn, .slice An Ln cn, .int .i64 gdn, .slice Adn Ldn cdn] 38); simpa only [World.size_alloc] using h5
        have szw8 : w8.heap.size = wn.heap.size + 1 := by rw [hw]; simp only [World.size_alloc]
        clear hw
        obtain ⟨C, hC⟩ : ∃ C : Int, C = cmpQ (mkRat n d) q2 := ⟨_, rfl⟩
        have HX : Hid (∀ w', Ext w8 w' → QR w' gn An cn Ln gdn Adn cdn Ldn (K + 10) (mkRat n d)) := fun w' hx => qr_mk (HNN.out.ext ((show Ext _ w8 from (by with_reducible repeat' first | exact Ext.refl _ | assumption | apply Ext.alloc_r | apply Ext.drew_r | apply Ext.drewN_r | refine Ext.trans ?_ ‹Ext _ _›)).trans hx)) (HDN.out.ext ((show Ext _ w8 from (by with_reducible repeat' first | exact Ext.refl _ | assumption | apply Ext.alloc_r | apply Ext.drew_r | apply Ext.drewN_r | refine Ext.trans ?_ ‹Ext _ _›)).trans hx)) (by omega) b9 (by omega)
        by_cases hlt : d < q.den
        · have hC0 : 0 ≤ C := by rw [hC]; exact cmpQ_ge0 (by rw [← HN.out]; exact HQ.out.not_below (by omega) hlt)
          have HC := Lib.hid hC.symm
          clear hC
          refine (qcmp_e (HX.out _ (by with_reducible repeat' first | exact Ext.refl _ | assumption | apply Ext.alloc_r | apply Ext.drew_r | apply Ext.drewN_r | refine Ext.trans ?_ ‹Ext _ _›)) (HZ2.out.1.ext (by with_reducible repeat' first | exact Ext.refl _ | assumption | apply Ext.alloc_r | apply Ext.drew_r | apply Ext.drewN_r | refine Ext.trans ?_ ‹Ext _ _›)) (by omega) (by omega) HC.out).mono ?_
          rintro e w9 ⟨rfl, x9⟩
          have szw9 : w8.heap.size ≤ w9.heap.size := x9.size
          replace bxa := bxa.ext x9
          replace bxb := bxb.ext x9
          replace bxr := bxr.ext x9
          replace bxden := bxden.ext x9
          replace bxn := bxn.ext x9
          replace bxx := bxx.ext x9
          clear HX HC
          have ka_0 := bxa.c 0 (.int .i64 g1) rfl
          have ka_1 := bxa.c 1 (.slice A1 L1 c1) rfl
          have ka_2 := bxa.c 2 (.int .i64 h1) rfl
          have ka_3 := bxa.c 3 (.slice B1 M1 d1) rfl
          have kb_0 := bxb.c 0 (.int .i64 g2) rfl
          have kb_1 := bxb.c 1 (.slice A2 L2 c2) rfl
          have kb_2 := bxb.c 2 (.int .i64 h2) rfl
          have kb_3 := bxb.c 3 (.slice B2 M2 d2) rfl
          have kr_0 := bxr.c 0 (.int .i64 0) rfl
          have kr_1 := bxr.c 1 (.slice none 0 0) rfl
          have kr_2 := bxr.c 2 (.int .i64 0) rfl
          have kr_3 := bxr.c 3 (.slice none 0 0) rfl
          have kden_0 := bxden.c 0 (.int .i64 gdn) rfl
          have kden_1 := bxden.c 1 (.slice Adn Ldn cdn) rfl
          have kn_0 := bxn.c 0 (.int .i64 gn) rfl
          have kn_1 := bxn.c 1 (.slice An Ln cn) rfl
          have kx_0 := bxx.c 0 (.int .i64 gn) rfl
          have kx_1 := bxx.c 1 (.slice An Ln cn) rfl
          have kx_2 := bxx.c 2 (.int .i64 gdn) rfl
          have kx_3 := bxx.c 3 (.slice Adn Ldn cdn) rfl
          go_wp2_with fail
          clear ka_0 ka_1 ka_2 ka_3 kb_0 kb_1 kb_2 kb_3 kr_0 kr_1 kr_2 kr_3 kden_0 kden_1 kn_0 kn_1 kx_0 kx_1 kx_2 kx_3
          go_roundw
          case rel => exact ⟨d + 1, by go_num, by omega, by omega, by omega, (by with_reducible repeat' first | exact Ext.refl _ | assumption | apply Ext.alloc_r | apply Ext.drew_r | apply Ext.drewN_r | refine Ext.trans ?_ ‹Ext _ _›)⟩
          case measure => simp [intOf]; omega
        · obtain rfl : d = q.den := by omega
          have hC0 : ¬ 0 ≤ C := by rw [hC]; exact cmpQ_lt0 (by rw [← HN.out]; exact HQ.out.at_den)
          have HC := Lib.hid hC.symm
          clear hC
          refine (qcmp_e (HX.out _ (by with_reducible repeat' first | exact Ext.refl _ | assumption | apply Ext.alloc_r | apply Ext.drew_r | apply Ext.drewN_r | refine Ext.trans ?_ ‹Ext _ _›)) (HZ2.out.1.ext (by with_reducible repeat' first | exact Ext.refl _ | assumption | apply Ext.alloc_r | apply Ext.drew_r | apply Ext.drewN_r | refine Ext.trans ?_ ‹Ext _ _›)) (by omega) (by omega) HC.out).mono ?_
          rintro e w9 ⟨rfl, x9⟩
          have szw9 : w8.heap.size ≤ w9.heap.size := x9.size
          replace bxa := bxa.ext x9
          replace bxb := bxb.ext x9
          replace bxr := bxr.ext x9
          replace bxden := bxden.ext x9
          replace bxn := bxn.ext x9
          replace bxx := bxx.ext x9
          clear HC
          have ka_0 := bxa.c 0 (.int .i64 g1) rfl
          have ka_1 := bxa.c 1 (.slice A1 L1 c1) rfl
          have ka_2 := bxa.c 2 (.int .i64 h1) rfl
          have ka_3 := bxa.c 3 (.slice B1 M1 d1) rfl
          have kb_0 := bxb.c 0 (.int .i64 g2) rfl
          have kb_1 := bxb.c 1 (.slice A2 L2 c2) rfl
          have kb_2 := bxb.c 2 (.int .i64 h2) rfl
          have kb_3 := bxb.c 3 (.slice B2 M2 d2) rfl
          have kr_0 := bxr.c 0 (.int .i64 0) rfl
          have kr_1 := bxr.c 1 (.slice none 0 0) rfl
          have kr_2 := bxr.c 2 (.int .i64 0) rfl
          have kr_3 := bxr.c 3 (.slice none 0 0) rfl
          have kden_0 := bxden.c 0 (.int .i64 gdn) rfl
          have kden_1 := bxden.c 1 (.slice Adn Ldn cdn) rfl
          have kn_0 := bxn.c 0 (.int .i64 gn) rfl
          have kn_1 := bxn.c 1 (.slice An Ln cn) rfl
          have kx_0 := bxx.c 0 (.int .i64 gn) rfl
          have kx_1 := bxx.c 1 (.slice An Ln cn) rfl
          have kx_2 := bxx.c 2 (.int .i64 gdn) rfl
          have kx_3 := bxx.c 3 (.slice Adn Ldn cdn) rfl
          go_wp2_with fail
          clear ka_0 ka_1 ka_2 ka_3 kb_0 kb_1 kb_2 kb_3 kr_0 kr_1 kr_2 kr_3 kden_0 kden_1 kn_0 kn_1 kx_0 kx_1 kx_2 kx_3
          refine (small_rz (n := 1) (by omega)).mono ?_
          rintro e w10 ⟨gze, Aze, cze, Lze, rfl, ze, x10⟩
          have szw10 : w9.heap.size ≤ w10.heap.size := x10.size
          replace bxa := bxa.ext x10
          replace bxb := bxb.ext x10
          replace bxr := bxr.ext x10
          replace bxden := bxden.ext x10
          replace bxn := bxn.ext x10
          replace bxx := bxx.ext x10
          have HZE := Lib.hid ze
          clear ze
          have ka_0 := bxa.c 0 (.int .i64 g1) rfl
          have ka_1 := bxa.c 1 (.slice A1 L1 c1) rfl
          have ka_2 := bxa.c 2 (.int .i64 h1) rfl
          have ka_3 := bxa.c 3 (.slice B1 M1 d1) rfl
          have kb_0 := bxb.c 0 (.int .i64 g2) rfl
          have kb_1 := bxb.c 1 (.slice A2 L2 c2) rfl
          have kb_2 := bxb.c 2 (.int .i64 h2) rfl
          have kb_3 := bxb.c 3 (.slice B2 M2 d2) rfl
          have kr_0 := bxr.c 0 (.int .i64 0) rfl
          have kr_1 := bxr.c 1 (.slice none 0 0) rfl
          have kr_2 := bxr.c 2 (.int .i64 0) rfl
          have kr_3 := bxr.c 3 (.slice none 0 0) rfl
          have kden_0 := bxden.c 0 (.int .i64 gdn) rfl
          have kden_1 := bxden.c 1 (.slice Adn Ldn cdn) rfl
          have kn_0 := bxn.c 0 (.int .i64 gn) rfl
          have kn_1 := bxn.c 1 (.slice An Ln cn) rfl
          have kx_0 := bxx.c 0 (.int .i64 gn) rfl
          have kx_1 := bxx.c 1 (.slice An Ln cn) rfl
          have kx_2 := bxx.c 2 (.int .i64 gdn) rfl
          have kx_3 := bxx.c 3 (.slice Adn Ldn cdn) rfl
          have t1a_0 := fun (o0 : Obj) => ((Ext.alloc w10 o0).cell (bxa.c 0 (.int .i64 g1) rfl))
          have t1a_1 := fun (o0 : Obj) => ((Ext.alloc w10 o0).cell (bxa.c 1 (.slice A1 L1 c1) rfl))
          have t1a_2 := fun (o0 : Obj) => ((Ext.alloc w10 o0).cell (bxa.c 2 (.int .i64 h1) rfl))
          have t1a_3 := fun (o0 : Obj) => ((Ext.alloc w10 o0).cell (bxa.c 3 (.slice B1 M1 d1) rfl))
          have t1b_0 := fun (o0 : Obj) => ((Ext.alloc w10 o0).cell (bxb.c 0 (.int .i64 g2) rfl))
          have t1b_1 := fun (o0 : Obj) => ((Ext.alloc w10 o0).cell (bxb.c 1 (.slice A2 L2 c2) rfl))
          have t1b_2 := fun (o0 : Obj) => ((Ext.alloc w10 o0).cell (bxb.c 2 (.int .i64 h2) rfl))
          have t1b_3 := fun (o0 : Obj) => ((Ext.alloc w10 o0).cell (bxb.c 3 (.slice B2 M2 d2) rfl))
          have t1r_0 := fun (o0 : Obj) => ((Ext.alloc w10 o0).cell (bxr.c 0 (.int .i64 0) rfl))
          have t1r_1 := fun (o0 : Obj) => ((Ext.alloc w10 o0).cell (bxr.c 1 (.slice none 0 0) rfl))
          have t1r_2 := fun (o0 : Obj) => ((Ext.alloc w10 o0).cell (bxr.c 2 (.int .i64 0) rfl))
          have t1r_3 := fun (o0 : Obj) => ((Ext.alloc w10 o0).cell (bxr.c 3 (.slice none 0 0) rfl))
          have t1den_0 := fun (o0 : Obj) => ((Ext.alloc w10 o0).cell (bxden.c 0 (.int .i64 gdn) rfl))
          have t1den_1 := fun (o0 : Obj) => ((Ext.alloc w10 o0).cell (bxden.c 1 (.slice Adn Ldn cdn) rfl))
          have t1n_0 := fun (o0 : Obj) => ((Ext.alloc w10 o0).cell (bxn.c 0 (.int .i64 gn) rfl))
          have t1n_1 := fun (o0 : Obj) => ((Ext.alloc w10 o0).cell (bxn.c 1 (.slice An Ln cn) rfl))
          have t1x_0 := fun (o0 : Obj) => ((Ext.alloc w10 o0).cell (bxx.c 0 (.int .i64 gn) rfl))
          have t1x_1 := fun (o0 : Obj) => ((Ext.alloc w10 o0).cell (bxx.c 1 (.slice An Ln cn) rfl))
          have t1x_2 := fun (o0 : Obj) => ((Ext.alloc w10 o0).cell (bxx.c 2 (.int .i64 gdn) rfl))
          have t1x_3 := fun (o0 : Obj) => ((Ext.alloc w10 o0).cell (bxx.c 3 (.slice Adn Ldn cdn) rfl))
          go_wp2_with fail
          clear ka_0 ka_1 ka_2 ka_3 kb_0 kb_1 kb_2 kb_3 kr_0 kr_1 kr_2 kr_3 kden_0 kden_1 kn_0 kn_1 kx_0 kx_1 kx_2 kx_3 t1a_0 t1a_1 t1a_2 t1a_3 t1b_0 t1b_1 t1b_2 t1b_3 t1r_0 t1r_1 t1r_2 t1r_3 t1den_0 t1den_1 t1n_0 t1n_1 t1x_0 t1x_1 t1x_2 t1x_3
          obtain ⟨w11, hw⟩ : ∃ z : World, z = (w10.alloc (.cells #[.int .i64 0, .slice none 0 0, .int .i64 gze, .slice Aze Lze cze] 38)) := ⟨_, rfl⟩
          rw [← hw]
          have x11 : Ext w10 w11 := by rw [hw]; exact (Ext.alloc _ _)
          replace bxa := bxa.ext x11
          replace bxb := bxb.ext x11
          replace bxr := bxr.ext x11
          replace bxden := bxden.ext x11
          replace bxn := bxn.ext x11
          replace bxx := bxx.ext x11
          have bxze : BK w11 (w10.heap.size) 38 #[.int .i64 0, .slice none 0 0, .int .i64 gze, .slice Aze Lze cze] := by rw [hw]; have h5 := (BK.new w10 #[.int .i64 0, .slice none 0 0, .int .i64 gze, .slice Aze Lze cze] 38); simpa only [World.size_alloc] using h5
          have szw11 : w11.heap.size = w10.heap.size + 1 := by rw [hw]; simp only [World.size_alloc]
          clear hw
          have HZZ : Hid (∀ w', Ext w11 w' → QR w' 0 none 0 0 gze Aze cze Lze 1 0) := fun w' hx => qr_zero (HZE.out.ext ((show Ext _ w11 from (by with_reducible repeat' first | exact Ext.refl _ | assumption | apply Ext.alloc_r | apply Ext.drew_r | apply Ext.drewN_r | refine Ext.trans ?_ ‹Ext _ _›)).trans hx))
          obtain ⟨D, hD⟩ : ∃ D : Int, D = cmpQ q1 0 := ⟨_, rfl⟩
          obtain ⟨G, hG⟩ : ∃ G : Int, G = cmpQ 0 q2 := ⟨_, rfl⟩
          have gD : D < 0 ↔ q1 < 0 := by rw [hD]; exact cmpQ_lt0i
          have gG : G < 0 ↔ 0 < q2 := by rw [hG]; exact cmpQ_lt0i
          have HD := Lib.hid hD.symm
          have HG := Lib.hid hG.symm
          clear hD hG
          have hDD : ¬ D < 0 := fun h => HH.out (gD.1 h)
          clear gD gG
          refine (qcmp_e (HZ1.out.ext (by with_reducible repeat' first | exact Ext.refl _ | assumption | apply Ext.alloc_r | apply Ext.drew_r | apply Ext.drewN_r | refine Ext.trans ?_ ‹Ext _ _›)) (HZZ.out _ (by with_reducible repeat' first | exact Ext.refl _ | assumption | apply Ext.alloc_r | apply Ext.drew_r | apply Ext.drewN_r | refine Ext.trans ?_ ‹Ext _ _›)) (by omega) (by omega) HD.out).mono ?_
          rintro e w12 ⟨rfl, x12⟩
          have szw12 : w11.heap.size ≤ w12.heap.size := x12.size
          replace bxa := bxa.ext x12
          replace bxb := bxb.ext x12
          replace bxr := bxr.ext x12
          replace bxden := bxden.ext x12
          replace bxn := bxn.ext x12
          replace bxx := bxx.ext x12
          replace bxze := bxze.ext x12
          clear HG HD HZZ
          clear bxa
          clear bxb
          clear bxze
          clear bxden
          have hnp : 0 < n := by rw [← HN.out]; exact nup_pos HH.out
          have hgp : gn > 0 := by rw [HGN.out, Int.sign_eq_one_of_pos hnp]; omega
          have HE : Hid (mkRat n q.den = q) := by
            show _ = _
            rw [← HN.out]
            refine HQ.out.up_pos ?_
            rw [HN.out]
            exact hnp
          have hxq := HX.out _ (show Ext _ w12 from (by with_reducible repeat' first | exact Ext.refl _ | assumption | apply Ext.alloc_r | apply Ext.drew_r | apply Ext.drewN_r | refine Ext.trans ?_ ‹Ext _ _›))
          clear HX HGN
          have kr_0 := bxr.c 0 (.int .i64 0) rfl
          have fr_0 := bxr.f 0
          have kr_1 := bxr.c 1 (.slice none 0 0) rfl
          have fr_1 := bxr.f 1
          have kr_2 := bxr.c 2 (.int .i64 0) rfl
          have fr_2 := bxr.f 2
          have kr_3 := bxr.c 3 (.slice none 0 0) rfl
          have fr_3 := bxr.f 3
          have kn_0 := bxn.c 0 (.int .i64 gn) rfl
          have kn_1 := bxn.c 1 (.slice An Ln cn) rfl
          have kx_0 := bxx.c 0 (.int .i64 gn) rfl
          have kx_1 := bxx.c 1 (.slice An Ln cn) rfl
          have kx_2 := bxx.c 2 (.int .i64 gdn) rfl
          have kx_3 := bxx.c 3 (.slice Adn Ldn cdn) rfl
          go_wp2_with fail
          clear kr_0 fr_0 kr_1 fr_1 kr_2 fr_2 kr_3 fr_3 kn_0 kn_1 kx_0 kx_1 kx_2 kx_3
          obtain ⟨w13, hw⟩ : ∃ z : World, z = ((((w12.setCell ⟨w.heap.size + 1 + 1, 0, none⟩ (.int .i64 gn)).setCell ⟨w.heap.size + 1 + 1, 1, none⟩ (.slice An Ln cn)).setCell ⟨w.heap.size + 1 + 1, 2, none⟩ (.int .i64 gdn)).setCell ⟨w.heap.size + 1 + 1, 3, none⟩ (.slice Adn Ldn cdn)) := ⟨_, rfl⟩
          rw [← hw]
          have kw13 : Kept w12 w13 := by rw [hw]; exact (Kept.set_ (Kept.set_ (Kept.set_ (Kept.set_ (Kept.refl _) bxr.isBox plain_Q) (IsBox.set_ bxr.isBox) plain_Q) (IsBox.set_ (IsBox.set_ bxr.isBox)) plain_Q) (IsBox.set_ (IsBox.set_ (IsBox.set_ bxr.isBox))) plain_Q)
          have nbr : BK w13 (w.heap.size + 1 + 1) 38 #[.int .i64 gn, .slice An Ln cn, .int .i64 gdn, .slice Adn Ldn cdn] := by rw [hw]; exact (BK.set (i := 3) (u := .slice Adn Ldn cdn) (vs' := #[.int .i64 gn, .slice An Ln cn, .int .i64 gdn, .slice Adn Ldn cdn]) (BK.set (i := 2) (u := .int .i64 gdn) (vs' := #[.int .i64 gn, .slice An Ln cn, .int .i64 gdn, .slice none 0 0]) (BK.set (i := 1) (u := .slice An Ln cn) (vs' := #[.int .i64 gn, .slice An Ln cn, .int .i64 0, .slice none 0 0]) (BK.set (i := 0) (u := .int .i64 gn) (vs' := #[.int .i64 gn, .slice none 0 0, .int .i64 0, .slice none 0 0]) bxr rfl) rfl) rfl) rfl)
          have nbn : BK w13 (b10) 36 #[.int .i64 gn, .slice An Ln cn] := by rw [hw]; exact (BK.far (BK.far (BK.far (BK.far bxn (show b10 ≠ w.heap.size + 1 + 1 by omega) 0 _) (show b10 ≠ w.heap.size + 1 + 1 by omega) 1 _) (show b10 ≠ w.heap.size + 1 + 1 by omega) 2 _) (show b10 ≠ w.heap.size + 1 + 1 by omega) 3 _)
          have nbx : BK w13 (wn.heap.size) 38 #[.int .i64 gn, .slice An Ln cn, .int .i64 gdn, .slice Adn Ldn cdn] := by rw [hw]; exact (BK.far (BK.far (BK.far (BK.far bxx (show wn.heap.size ≠ w.heap.size + 1 + 1 by omega) 0 _) (show wn.heap.size ≠ w.heap.size + 1 + 1 by omega) 1 _) (show wn.heap.size ≠ w.heap.size + 1 + 1 by omega) 2 _) (show wn.heap.size ≠ w.heap.size + 1 + 1 by omega) 3 _)
          have x13 : Ext w w13 := by rw [hw]; have hxp : Ext w w12 := (by with_reducible repeat' first | exact Ext.refl _ | assumption | apply Ext.alloc_r | apply Ext.drew_r | apply Ext.drewN_r | refine Ext.trans ?_ ‹Ext _ _›); exact (Ext.set_ (Ext.set_ (Ext.set_ (Ext.set_ hxp (show _ ≤ w.heap.size + 1 + 1 by omega)) (show _ ≤ w.heap.size + 1 + 1 by omega)) (show _ ≤ w.heap.size + 1 + 1 by omega)) (show _ ≤ w.heap.size + 1 + 1 by omega))
          clear bxr
          clear bxn
          clear bxx
          have bxr := nbr
          clear nbr
          have bxn := nbn
          clear nbn
          have bxx := nbx
          clear nbx
          have szw13 : w13.heap.size = w12.heap.size := by rw [hw]; simp
          replace hxq := (hxq.ext (by with_reducible repeat' first | exact Ext.refl _ | assumption | apply Ext.alloc_r | apply Ext.drew_r | apply Ext.drewN_r | refine Ext.trans ?_ ‹Ext _ _›)).kept kw13
          clear hw kw13
          have kr_0 := bxr.c 0 (.int .i64 gn) rfl
          have kr_1 := bxr.c 1 (.slice An Ln cn) rfl
          have kr_2 := bxr.c 2 (.int .i64 gdn) rfl
          have kr_3 := bxr.c 3 (.slice Adn Ldn cdn) rfl
          refine bodyPost_ret (v := .tuple #[.agg #[.int .i64 gn, .slice An Ln cn, .int .i64 gdn, .slice Adn Ldn cdn], .bool true]) (by simp [results, Try.results52, go_sem, kr_0, kr_1, kr_2, kr_3]) rfl ?_
          exact ⟨_, _, _, _, _, _, _, _, _, rfl, fun _ => by rw [← HE.out]; exact hxq.wide (by omega), x13⟩
    · skip
      have ka_0 := bxa.c 0 (.int .i64 g1) rfl
      have ka_1 := bxa.c 1 (.slice A1 L1 c1) rfl
      have ka_2 := bxa.c 2 (.int .i64 h1) rfl
      have ka_3 := bxa.c 3 (.slice B1 M1 d1) rfl
      have kb_0 := bxb.c 0 (.int .i64 g2) rfl
      have kb_1 := bxb.c 1 (.slice A2 L2 c2) rfl
      have kb_2 := bxb.c 2 (.int .i64 h2) rfl
      have kb_3 := bxb.c 3 (.slice B2 M2 d2) rfl
      have kr_0 := bxr.c 0 (.int .i64 0) rfl
      have fr_0 := bxr.f 0
      have kr_1 := bxr.c 1 (.slice none 0 0) rfl
      have fr_1 := bxr.f 1
      have kr_2 := bxr.c 2 (.int .i64 0) rfl
      have fr_2 := bxr.f 2
      have kr_3 := bxr.c 3 (.slice none 0 0) rfl
      have fr_3 := bxr.f 3
      go_wp2_with fail
      clear ka_0 ka_1 ka_2 ka_3 kb_0 kb_1 kb_2 kb_3 kr_0 fr_0 kr_1 fr_1 kr_2 fr_2 kr_3 fr_3
      obtain ⟨w14, hw⟩ : ∃ z : World, z = ((((wr.setCell ⟨w.heap.size + 1 + 1, 0, none⟩ (.int .i64 0)).setCell ⟨w.heap.size + 1 + 1, 1, none⟩ (.slice none 0 0)).setCell ⟨w.heap.size + 1 + 1, 2, none⟩ (.int .i64 0)).setCell ⟨w.heap.size + 1 + 1, 3, none⟩ (.slice none 0 0)) := ⟨_, rfl⟩
      rw [← hw]
      have kw14 : Kept wr w14 := by rw [hw]; exact (Kept.set_ (Kept.set_ (Kept.set_ (Kept.set_ (Kept.refl _) bxr.isBox plain_Q) (IsBox.set_ bxr.isBox) plain_Q) (IsBox.set_ (IsBox.set_ bxr.isBox)) plain_Q) (IsBox.set_ (IsBox.set_ (IsBox.set_ bxr.isBox))) plain_Q)
      have nba : BK w14 (w.heap.size) 38 #[.int .i64 g1, .slice A1 L1 c1, .int .i64 h1, .slice B1 M1 d1] := by rw [hw]; exact (BK.far (BK.far (BK.far (BK.far bxa (show w.heap.size ≠ w.heap.size + 1 + 1 by omega) 0 _) (show w.heap.size ≠ w.heap.size + 1 + 1 by omega) 1 _) (show w.heap.size ≠ w.heap.size + 1 + 1 by omega) 2 _) (show w.heap.size ≠ w.heap.size + 1 + 1 by omega) 3 _)
      have nbb : BK w14 (w.heap.size + 1) 38 #[.int .i64 g2, .slice A2 L2 c2, .int .i64 h2, .slice B2 M2 d2] := by rw [hw]; exact (BK.far (BK.far (BK.far (BK.far bxb (show w.heap.size + 1 ≠ w.heap.size + 1 + 1 by omega) 0 _) (show w.heap.size + 1 ≠ w.heap.size + 1 + 1 by omega) 1 _) (show w.heap.size + 1 ≠ w.heap.size + 1 + 1 by omega) 2 _) (show w.heap.size + 1 ≠ w.heap.size + 1 + 1 by omega) 3 _)
      have nbr : BK w14 (w.heap.size + 1 + 1) 38 #[.int .i64 0, .slice none 0 0, .int .i64 0, .slice none 0 0] := by rw [hw]; exact (BK.set (i := 3) (u := .slice none 0 0) (vs' := #[.int .i64 0, .slice none 0 0, .int .i64 0, .slice none 0 0]) (BK.set (i := 2) (u := .int .i64 0) (vs' := #[.int .i64 0, .slice none 0 0, .int .i64 0, .slice none 0 0]) (BK.set (i := 1) (u := .slice none 0 0) (vs' := #[.int .i64 0, .slice none 0 0, .int .i64 0, .slice none 0 0]) (BK.set (i := 0) (u := .int .i64 0) (vs' := #[.int .i64 0, .slice none 0 0, .int .i64 0, .slice none 0 0]) bxr rfl) rfl) rfl) rfl)
      have x14 : Ext w w14 := by rw [hw]; have hxp : Ext w wr := (by with_reducible repeat' first | exact Ext.refl _ | assumption | apply Ext.alloc_r | apply Ext.drew_r | apply Ext.drewN_r | refine Ext.trans ?_ ‹Ext _ _›); exact (Ext.set_ (Ext.set_ (Ext.set_ (Ext.set_ hxp (show _ ≤ w.heap.size + 1 + 1 by omega)) (show _ ≤ w.heap.size + 1 + 1 by omega)) (show _ ≤ w.heap.size + 1 + 1 by omega)) (show _ ≤ w.heap.size + 1 + 1 by omega))
      clear bxa
      clear bxb
      clear bxr
      have bxa := nba
      clear nba
      have bxb := nbb
      clear nbb
      have bxr := nbr
      clear nbr
      have szw14 : w14.heap.size = wr.heap.size := by rw [hw]; simp
      clear hw kw14
      have kr_0 := bxr.c 0 (.int .i64 0) rfl
      have kr_1 := bxr.c 1 (.slice none 0 0) rfl
      have kr_2 := bxr.c 2 (.int .i64 0) rfl
      have kr_3 := bxr.c 3 (.slice none 0 0) rfl
      refine bodyPost_ret (v := .tuple #[.agg #[.int .i64 0, .slice none 0 0, .int .i64 0, .slice none 0 0], .bool false]) (by simp [results, Try.results52, go_sem, kr_0, kr_1, kr_2, kr_3]) rfl ?_
      exact ⟨_, _, _, _, _, _, _, _, _, rfl, (fun h => by cases h), x14⟩
end Go.Proofs.Ytfnmbhjifdfibaa
