/- The statement IntervalPowers: for every input the law returns true, and each argument reads afterwards as it read before. No condition is added. -/
import Derived.Test.YtehhkeenjlpikaaGreatRows
import Derived.Test.YtehhkeenjlpikaaGreatPoOpenV
import Derived.Test.YtehhkeenjlpikaaGreatPoIntervalPowersW
namespace Go.Proofs.YtehhkeenjlpikaaGreat.intervalPowersDone
open Go.ChangeShapes Go.WideShapes Go.ChangeAt Go.RowKit Go.Proofs.YtehhkeenjlpikaaGreat
open Go.ChangeMaps (open_string shut_string)

set_option maxRecDepth 100000 in
theorem lifted (os : Os) (started : os.Started) (H : Type) (enc : TypeId × Value → H) :
    ReturnsInHanded {} Tryz.checked os 7 .any (Rows.intervalPowersSpec.pre6 enc Tryz.prog Tryz.f7 Rows.intervalPowersRow.domain false) (Rows.intervalPowersSpec.post enc Tryz.prog Tryz.f7 false true false false) := by
  refine returnsInHanded_of_change (C := Tryz.checked) own_knob started (by kernel_rfl) Tryz.func7
    (ChangeSpec.witness6 (enc := enc) (C := Tryz.checked) false ⟨#[], #[.agg #[.bool false, .slice none 0 0, .slice none 0 0, .bool false, .slice none 0 0, .slice none 0 0], .int .i64 0], []⟩ 8 (by kernel_rfl) (by kernel_rfl) (by kernel_rfl) (by kernel_rfl)) ?_
  intro W base args ds gs before hval0 hW _ _
  have hval : ∀ (j : Nat) t v, Tryz.f7.params[j]? = some t → args[j]? = some v → Value.okWide Tryz.prog W .any base t v := hval0
  have hW' := hW
  obtain ⟨p, q, hA0, hV, rfl, _, _⟩ := hW
  have hA : DataW.TrodAll enc Tryz.prog W 0 (fun _ => true) true Tryz.f7.params.toList args.toList ds p := hA0
  rw [Tryz.params7] at hA hval
  obtain ⟨v0, vs0, d0, ds0, p0, q0, hargs, rfl, rfl, h0, r0⟩ := trodAll_cons hA
  obtain ⟨v1, vs1, d1, ds1, p1, q1, rfl, rfl, rfl, h1, r1⟩ := trodAll_cons r0
  obtain ⟨rfl, rfl, rfl⟩ := trodAll_nil r1
  obtain rfl : args = #[v0, v1] := by cases args; simp_all
  obtain ⟨rfl, rfl⟩ := trodVars_none hV
  have k0 := h0
  have lt0 : ∀ x ∈ p0, x.block < W.heap.size := by obtain ⟨m, hm⟩ := k0; exact DataW.trod_lt m _ _ _ hm
  have k1 := h1
  have lt1 : ∀ x ∈ p1, x.block < W.heap.size := by obtain ⟨m, hm⟩ := k1; exact DataW.trod_lt m _ _ _ hm
  obtain ⟨s0, A0, c0, L0, B0, d0, M0, x0, y0, s0', A0', c0', L0', B0', d0', M0', x0', y0', rfl, n0⟩ := open_V (hval 0 29 v0 rfl rfl) h0
  obtain ⟨e1, rfl, n1⟩ := open_int_ (hval 1 3 v1 rfl rfl) h1
  clear hA0 hval0 hval
  refine (intervalPowers_walk n0.1 n0.2 n1).mono fun e W' ⟨he, bel⟩ => ?_
  subst he
  exact ⟨_, rfl, _, _, _, [], _, [], hW', trodAll_mk1 (shut_bool Tryz.underlying4 _), (trodAll_cons_mk (Below.trod laidOut (by kernel_rfl) (of_decide_eq_true (by kernel_rfl)) k0 bel lt0) (trodAll_cons_mk (Below.trod laidOut (by kernel_rfl) (of_decide_eq_true (by kernel_rfl)) k1 bel lt1) trodAll_mk0)), rfl, bel.frame _, fun h => by cases h⟩

theorem fact0 : (Rows.intervalPowersRow.wf (OpenSpec.ofChange Rows.intervalPowersSpec) : Bool) = true := by kernel_rfl
theorem fact3 : (Tryz.f7.params.all (Tryz.prog.readableRec ·) : Bool) = true := by kernel_rfl
theorem fact4 : (namedTie Tryz.prog Rows.intervalPowersRow.named Rows.intervalPowersSpec.vars : Bool) = true := by kernel_rfl
theorem fact5 : ((Rows.intervalPowersRow.stops == []) : Bool) = true := by kernel_rfl
theorem fact7 : ((Rows.intervalPowersRow.knobs == []) : Bool) = true := by kernel_rfl
theorem fact9 : ((Rows.intervalPowersRow.inPlace == Tryz.prog.inPlace 7) : Bool) = true := by kernel_rfl
theorem fact10 : ((Rows.intervalPowersRow.unfollowed == Tryz.prog.unfollowed 7) : Bool) = true := by kernel_rfl
theorem fact11 : ((Rows.intervalPowersRow.recurses == Tryz.prog.recurses 7) : Bool) = true := by kernel_rfl
theorem fact12 : ((Rows.intervalPowersRow.named == Tryz.prog.varsNamed 7) : Bool) = true := by kernel_rfl
theorem fact13 : ((Rows.intervalPowersRow.maps == (Tryz.f7.params.toList ++ Rows.intervalPowersSpec.plain.varTypes Tryz.prog).any (Tryz.prog.mapsRec ·)) : Bool) = true := by kernel_rfl
theorem fact14 : ((Rows.intervalPowersRow.ifaces == (Tryz.f7.params.toList ++ Rows.intervalPowersSpec.plain.varTypes Tryz.prog).any (Tryz.prog.ifacesRec ·)) : Bool) = true := by kernel_rfl
theorem fact15 : ((Rows.intervalPowersRow.mapsOut == Tryz.prog.mapsAmong Tryz.f7.resultTypes.toList) : Bool) = true := by kernel_rfl
theorem fact16 : ((Rows.intervalPowersRow.loops == (Tryz.f7.params.toList ++ Rows.intervalPowersSpec.plain.varTypes Tryz.prog).any (Tryz.prog.loopsFrom ·)) : Bool) = true := by kernel_rfl
theorem fact17 : ((Rows.intervalPowersRow.wideKeys == (Tryz.f7.params.toList ++ Rows.intervalPowersSpec.plain.varTypes Tryz.prog ++ Tryz.f7.resultTypes.toList).any (Tryz.prog.wideKeysFrom ·)) : Bool) = true := by kernel_rfl
theorem fact18 : (Rows.intervalPowersSpec.vars.all (Tryz.prog.varReadable ·) : Bool) = true := by kernel_rfl
theorem fact19 : (Tryz.f7.resultTypes.all (fun t => Tryz.prog.readableRec t && decide (t < Tryz.prog.types.size)) : Bool) = true := by kernel_rfl
theorem fact20 : ((Rows.intervalPowersRow.ifacesOut == Tryz.f7.resultTypes.toList.any (Tryz.prog.ifacesRec ·)) : Bool) = true := by kernel_rfl
theorem fact21 : ((Rows.intervalPowersRow.loopsOut == Tryz.f7.resultTypes.toList.any (Tryz.prog.loopsFrom ·)) : Bool) = true := by kernel_rfl
theorem fact22 : ((Rows.intervalPowersRow.plainKeys == Tryz.prog.plainKeys) : Bool) = true := by kernel_rfl
theorem fact23 : (Rows.intervalPowersRow.shortTexts.isNone : Bool) = true := by kernel_rfl
theorem fact26 : ((Rows.intervalPowersRow.lifted == Tryz.prog.liftsFinal) : Bool) = true := by kernel_rfl
theorem fact27 : ((Tryz.prog.make == some Rows.intervalPowersRow.make) : Bool) = true := by kernel_rfl
theorem fact28 : ((Rows.intervalPowersRow.kinds == (if Rows.intervalPowersRow.domain.isEmpty then [] else Tryz.f7.params.toList.map fun t => match Tryz.prog.underlying t with | some (.int k) => some k | _ => none)) : Bool) = true := by kernel_rfl
theorem fact29 : ((Rows.intervalPowersRow.pinned == Rows.intervalPowersRow.pinnedBy) : Bool) = true := by kernel_rfl
theorem fact30 : ((Rows.intervalPowersRow.veiled == (Tryz.f7.params.toList ++ Rows.intervalPowersSpec.plain.varTypes Tryz.prog ++ Tryz.f7.resultTypes.toList).any (Tryz.prog.veiledRec ·)) : Bool) = true := by kernel_rfl
theorem fact31 : (Rows.intervalPowersRow.veiledFits Tryz.prog Tryz.f7.params.toList (Tryz.f7.params.toList ++ Rows.intervalPowersSpec.plain.varTypes Tryz.prog ++ Tryz.f7.resultTypes.toList) : Bool) = true := by kernel_rfl
set_option maxRecDepth 100000 in
theorem closed : joinedFacts Tryz.prog 7 Tryz.f7 Rows.intervalPowersSpec Rows.intervalPowersRow = true := and_true (and_true (and_true (and_true (and_true (and_true (and_true (and_true (and_true (and_true (and_true (and_true (and_true (and_true (and_true (and_true (and_true (and_true (and_true (and_true (and_true (and_true (and_true (and_true (and_true (and_true (and_true (and_true (and_true (and_true (and_true fact0 laidOut) shared_fact2) fact3) fact4) fact5) shared_fact6) fact7) shared_fact8) fact9) fact10) fact11) fact12) fact13) fact14) fact15) fact16) fact17) fact18) fact19) fact20) fact21) fact22) fact23) shared_fact24) shared_fact25) fact26) fact27) fact28) fact29) fact30) fact31

theorem over : Rows.intervalPowersRow.holds Tryz.pinned (OpenSpec.ofChange Rows.intervalPowersSpec) :=
  OpenClaim.holds_of_wide 7 Tryz.f7 rfl rfl rfl rfl rfl rfl rfl ⟨rfl, rfl, rfl, rfl, rfl⟩ rfl rfl rfl rfl rfl (by as_aux_lemma => kernel_rfl) Tryz.func7 closed
    (of_decide_eq_true (by kernel_rfl)) (by unfold Func.isWrapper; first | (rw [if_pos (by decide +kernel)]; kernel_rfl) | (rw [if_neg (by decide +kernel)]; exact ⟨rfl, rfl⟩))
    (fun os started H enc _ => lifted os started H enc)

theorem proved : Rows.IntervalPowersSaid := over
#print axioms proved
end Go.Proofs.YtehhkeenjlpikaaGreat.intervalPowersDone
