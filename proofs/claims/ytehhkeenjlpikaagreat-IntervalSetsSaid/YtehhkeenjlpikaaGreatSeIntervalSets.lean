/- The statement IntervalSets: for every input the law returns true, and each argument reads afterwards as it read before. No condition is added. -/
import Derived.Test.YtehhkeenjlpikaaGreatRows
import Derived.Test.YtehhkeenjlpikaaGreatSeOpenV
import Derived.Test.YtehhkeenjlpikaaGreatSeIntervalSetsW
namespace Go.Proofs.YtehhkeenjlpikaaGreat.intervalSetsDone
open Go.ChangeShapes Go.WideShapes Go.ChangeAt Go.RowKit Go.Proofs.YtehhkeenjlpikaaGreat
open Go.ChangeMaps (open_string shut_string)

set_option maxRecDepth 100000 in
theorem lifted (os : Os) (started : os.Started) (H : Type) (enc : TypeId × Value → H) :
    ReturnsInHanded {} Tryz.checked os 6 .any (Rows.intervalSetsSpec.pre6 enc Tryz.prog Tryz.f6 Rows.intervalSetsRow.domain false) (Rows.intervalSetsSpec.post enc Tryz.prog Tryz.f6 false true false false) := by
  refine returnsInHanded_of_change (C := Tryz.checked) own_knob started (by kernel_rfl) Tryz.func6
    (ChangeSpec.witness6 (enc := enc) (C := Tryz.checked) false ⟨#[], #[.agg #[.bool false, .slice none 0 0, .slice none 0 0, .bool false, .slice none 0 0, .slice none 0 0], .agg #[.bool false, .slice none 0 0, .slice none 0 0, .bool false, .slice none 0 0, .slice none 0 0], .agg #[.bool false, .slice none 0 0, .slice none 0 0]], []⟩ 8 (by kernel_rfl) (by kernel_rfl) (by kernel_rfl) (by kernel_rfl)) ?_
  intro W base args ds gs before hval0 hW _ _
  have hval : ∀ (j : Nat) t v, Tryz.f6.params[j]? = some t → args[j]? = some v → Value.okWide Tryz.prog W .any base t v := hval0
  have hW' := hW
  obtain ⟨p, q, hA0, hV, rfl, _, _⟩ := hW
  have hA : DataW.TrodAll enc Tryz.prog W 0 (fun _ => true) true Tryz.f6.params.toList args.toList ds p := hA0
  rw [Tryz.params6] at hA hval
  obtain ⟨v0, vs0, d0, ds0, p0, q0, hargs, rfl, rfl, h0, r0⟩ := trodAll_cons hA
  obtain ⟨v1, vs1, d1, ds1, p1, q1, rfl, rfl, rfl, h1, r1⟩ := trodAll_cons r0
  obtain ⟨v2, vs2, d2, ds2, p2, q2, rfl, rfl, rfl, h2, r2⟩ := trodAll_cons r1
  obtain ⟨rfl, rfl, rfl⟩ := trodAll_nil r2
  obtain rfl : args = #[v0, v1, v2] := by cases args; simp_all
  obtain ⟨rfl, rfl⟩ := trodVars_none hV
  have k0 := h0
  have lt0 : ∀ x ∈ p0, x.block < W.heap.size := by obtain ⟨m, hm⟩ := k0; exact DataW.trod_lt m _ _ _ hm
  have k1 := h1
  have lt1 : ∀ x ∈ p1, x.block < W.heap.size := by obtain ⟨m, hm⟩ := k1; exact DataW.trod_lt m _ _ _ hm
  have k2 := h2
  have lt2 : ∀ x ∈ p2, x.block < W.heap.size := by obtain ⟨m, hm⟩ := k2; exact DataW.trod_lt m _ _ _ hm
  obtain ⟨s0, A0, c0, L0, B0, d0, M0, x0, y0, s0', A0', c0', L0', B0', d0', M0', x0', y0', rfl, n0⟩ := open_V (hval 0 29 v0 rfl rfl) h0
  obtain ⟨s1, A1, c1, L1, B1, d1, M1, x1, y1, s1', A1', c1', L1', B1', d1', M1', x1', y1', rfl, n1⟩ := open_V (hval 1 29 v1 rfl rfl) h1
  obtain ⟨s2, A2, c2, L2, B2, d2, M2, x2, y2, rfl, n2⟩ := open_R (hval 2 27 v2 rfl rfl) h2
  clear hA0 hval0 hval
  refine (intervalSets_walk n0.1 n0.2 n1.1 n1.2 n2).mono fun e W' ⟨he, bel⟩ => ?_
  subst he
  exact ⟨_, rfl, _, _, _, [], _, [], hW', trodAll_mk1 (shut_bool Tryz.underlying4 _), (trodAll_cons_mk (Below.trod laidOut (by kernel_rfl) (of_decide_eq_true (by kernel_rfl)) k0 bel lt0) (trodAll_cons_mk (Below.trod laidOut (by kernel_rfl) (of_decide_eq_true (by kernel_rfl)) k1 bel lt1) (trodAll_cons_mk (Below.trod laidOut (by kernel_rfl) (of_decide_eq_true (by kernel_rfl)) k2 bel lt2) trodAll_mk0))), rfl, bel.frame _, fun h => by cases h⟩

theorem fact0 : (Rows.intervalSetsRow.wf (OpenSpec.ofChange Rows.intervalSetsSpec) : Bool) = true := by kernel_rfl
theorem fact3 : (Tryz.f6.params.all (Tryz.prog.readableRec ·) : Bool) = true := by kernel_rfl
theorem fact4 : (namedTie Tryz.prog Rows.intervalSetsRow.named Rows.intervalSetsSpec.vars : Bool) = true := by kernel_rfl
theorem fact5 : ((Rows.intervalSetsRow.stops == []) : Bool) = true := by kernel_rfl
theorem fact7 : ((Rows.intervalSetsRow.knobs == []) : Bool) = true := by kernel_rfl
theorem fact9 : ((Rows.intervalSetsRow.inPlace == Tryz.prog.inPlace 6) : Bool) = true := by kernel_rfl
theorem fact10 : ((Rows.intervalSetsRow.unfollowed == Tryz.prog.unfollowed 6) : Bool) = true := by kernel_rfl
theorem fact11 : ((Rows.intervalSetsRow.recurses == Tryz.prog.recurses 6) : Bool) = true := by kernel_rfl
theorem fact12 : ((Rows.intervalSetsRow.named == Tryz.prog.varsNamed 6) : Bool) = true := by kernel_rfl
theorem fact13 : ((Rows.intervalSetsRow.maps == (Tryz.f6.params.toList ++ Rows.intervalSetsSpec.plain.varTypes Tryz.prog).any (Tryz.prog.mapsRec ·)) : Bool) = true := by kernel_rfl
theorem fact14 : ((Rows.intervalSetsRow.ifaces == (Tryz.f6.params.toList ++ Rows.intervalSetsSpec.plain.varTypes Tryz.prog).any (Tryz.prog.ifacesRec ·)) : Bool) = true := by kernel_rfl
theorem fact15 : ((Rows.intervalSetsRow.mapsOut == Tryz.prog.mapsAmong Tryz.f6.resultTypes.toList) : Bool) = true := by kernel_rfl
theorem fact16 : ((Rows.intervalSetsRow.loops == (Tryz.f6.params.toList ++ Rows.intervalSetsSpec.plain.varTypes Tryz.prog).any (Tryz.prog.loopsFrom ·)) : Bool) = true := by kernel_rfl
theorem fact17 : ((Rows.intervalSetsRow.wideKeys == (Tryz.f6.params.toList ++ Rows.intervalSetsSpec.plain.varTypes Tryz.prog ++ Tryz.f6.resultTypes.toList).any (Tryz.prog.wideKeysFrom ·)) : Bool) = true := by kernel_rfl
theorem fact18 : (Rows.intervalSetsSpec.vars.all (Tryz.prog.varReadable ·) : Bool) = true := by kernel_rfl
theorem fact19 : (Tryz.f6.resultTypes.all (fun t => Tryz.prog.readableRec t && decide (t < Tryz.prog.types.size)) : Bool) = true := by kernel_rfl
theorem fact20 : ((Rows.intervalSetsRow.ifacesOut == Tryz.f6.resultTypes.toList.any (Tryz.prog.ifacesRec ·)) : Bool) = true := by kernel_rfl
theorem fact21 : ((Rows.intervalSetsRow.loopsOut == Tryz.f6.resultTypes.toList.any (Tryz.prog.loopsFrom ·)) : Bool) = true := by kernel_rfl
theorem fact22 : ((Rows.intervalSetsRow.plainKeys == Tryz.prog.plainKeys) : Bool) = true := by kernel_rfl
theorem fact23 : (Rows.intervalSetsRow.shortTexts.isNone : Bool) = true := by kernel_rfl
theorem fact26 : ((Rows.intervalSetsRow.lifted == Tryz.prog.liftsFinal) : Bool) = true := by kernel_rfl
theorem fact27 : ((Tryz.prog.make == some Rows.intervalSetsRow.make) : Bool) = true := by kernel_rfl
theorem fact28 : ((Rows.intervalSetsRow.kinds == (if Rows.intervalSetsRow.domain.isEmpty then [] else Tryz.f6.params.toList.map fun t => match Tryz.prog.underlying t with | some (.int k) => some k | _ => none)) : Bool) = true := by kernel_rfl
theorem fact29 : ((Rows.intervalSetsRow.pinned == Rows.intervalSetsRow.pinnedBy) : Bool) = true := by kernel_rfl
theorem fact30 : ((Rows.intervalSetsRow.veiled == (Tryz.f6.params.toList ++ Rows.intervalSetsSpec.plain.varTypes Tryz.prog ++ Tryz.f6.resultTypes.toList).any (Tryz.prog.veiledRec ·)) : Bool) = true := by kernel_rfl
theorem fact31 : (Rows.intervalSetsRow.veiledFits Tryz.prog Tryz.f6.params.toList (Tryz.f6.params.toList ++ Rows.intervalSetsSpec.plain.varTypes Tryz.prog ++ Tryz.f6.resultTypes.toList) : Bool) = true := by kernel_rfl
set_option maxRecDepth 100000 in
theorem closed : joinedFacts Tryz.prog 6 Tryz.f6 Rows.intervalSetsSpec Rows.intervalSetsRow = true := and_true (and_true (and_true (and_true (and_true (and_true (and_true (and_true (and_true (and_true (and_true (and_true (and_true (and_true (and_true (and_true (and_true (and_true (and_true (and_true (and_true (and_true (and_true (and_true (and_true (and_true (and_true (and_true (and_true (and_true (and_true fact0 laidOut) shared_fact2) fact3) fact4) fact5) shared_fact6) fact7) shared_fact8) fact9) fact10) fact11) fact12) fact13) fact14) fact15) fact16) fact17) fact18) fact19) fact20) fact21) fact22) fact23) shared_fact24) shared_fact25) fact26) fact27) fact28) fact29) fact30) fact31

theorem over : Rows.intervalSetsRow.holds Tryz.pinned (OpenSpec.ofChange Rows.intervalSetsSpec) :=
  OpenClaim.holds_of_wide 6 Tryz.f6 rfl rfl rfl rfl rfl rfl rfl ⟨rfl, rfl, rfl, rfl, rfl⟩ rfl rfl rfl rfl rfl (by as_aux_lemma => kernel_rfl) Tryz.func6 closed
    (of_decide_eq_true (by kernel_rfl)) (by unfold Func.isWrapper; first | (rw [if_pos (by decide +kernel)]; kernel_rfl) | (rw [if_neg (by decide +kernel)]; exact ⟨rfl, rfl⟩))
    (fun os started H enc _ => lifted os started H enc)

theorem proved : Rows.IntervalSetsSaid := over
#print axioms proved
end Go.Proofs.YtehhkeenjlpikaaGreat.intervalSetsDone
