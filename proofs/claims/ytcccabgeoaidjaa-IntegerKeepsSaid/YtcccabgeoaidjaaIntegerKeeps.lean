/- The statement IntegerKeeps: for every input the law returns true, and each argument reads afterwards as it read before. No condition is added. -/
import Derived.Test.YtcccabgeoaidjaaRows
import Derived.Test.YtcccabgeoaidjaaOpenZz
import Derived.Test.YtcccabgeoaidjaaIntegerKeepsW
namespace Go.Proofs.Ytcccabgeoaidjaa.integerKeepsDone
open Go.ChangeShapes Go.WideShapes Go.ChangeAt Go.RowKit Go.Proofs.Ytcccabgeoaidjaa
open Go.ChangeMaps (open_string shut_string)

set_option maxRecDepth 100000 in
theorem lifted (os : Os) (started : os.Started) (H : Type) (enc : TypeId × Value → H) :
    ReturnsInHanded {} Try.checked os 10 .any (Rows.integerKeepsSpec.pre6 enc Try.prog Try.f10 Rows.integerKeepsRow.domain false) (Rows.integerKeepsSpec.post enc Try.prog Try.f10 false true false false) := by
  refine returnsInHanded_of_change (C := Try.checked) own_knob started (by kernel_rfl) Try.func10
    (ChangeSpec.witness6 (enc := enc) (C := Try.checked) false ⟨#[], #[.agg #[.bool false, .slice none 0 0], .agg #[.bool false, .slice none 0 0]], []⟩ 8 (by kernel_rfl) (by kernel_rfl) (by kernel_rfl) (by kernel_rfl)) ?_
  intro W base args ds gs before hval0 hW _ _
  have hval : ∀ (j : Nat) t v, Try.f10.params[j]? = some t → args[j]? = some v → Value.okWide Try.prog W .any base t v := hval0
  have hW' := hW
  obtain ⟨p, q, hA0, hV, rfl, _, _⟩ := hW
  have hA : DataW.TrodAll enc Try.prog W 0 (fun _ => true) true Try.f10.params.toList args.toList ds p := hA0
  rw [Try.params10] at hA hval
  obtain ⟨v0, vs0, d0, ds0, p0, q0, hargs, rfl, rfl, h0, r0⟩ := trodAll_cons hA
  obtain ⟨v1, vs1, d1, ds1, p1, q1, rfl, rfl, rfl, h1, r1⟩ := trodAll_cons r0
  obtain ⟨rfl, rfl, rfl⟩ := trodAll_nil r1
  obtain rfl : args = #[v0, v1] := by cases args; simp_all
  obtain ⟨rfl, rfl⟩ := trodVars_none hV
  have k0 := h0
  have lt0 : ∀ x ∈ p0, x.block < W.heap.size := by obtain ⟨m, hm⟩ := k0; exact DataW.trod_lt m _ _ _ hm
  have k1 := h1
  have lt1 : ∀ x ∈ p1, x.block < W.heap.size := by obtain ⟨m, hm⟩ := k1; exact DataW.trod_lt m _ _ _ hm
  obtain ⟨s0, A0, c0, e0, rfl, m0, o0⟩ := open_Zz (hval 0 25 v0 rfl rfl) h0
  obtain ⟨_, x0, rfl, t0⟩ := zv_of (s := s0) m0
  obtain ⟨s1, A1, c1, e1, rfl, m1, o1⟩ := open_Zz (hval 1 25 v1 rfl rfl) h1
  obtain ⟨_, x1, rfl, t1⟩ := zv_of (s := s1) m1
  clear hA0 hval0 hval
  refine (integerKeeps_walk m0 o0 t0 m1 o1 t1).mono fun e W' ⟨he, bel⟩ => ?_
  subst he
  exact ⟨_, rfl, _, _, _, [], _, [], hW', trodAll_mk1 (shut_bool Try.underlying4 _), (trodAll_cons_mk (Below.trod laidOut (by kernel_rfl) (of_decide_eq_true (by kernel_rfl)) k0 bel lt0) (trodAll_cons_mk (Below.trod laidOut (by kernel_rfl) (of_decide_eq_true (by kernel_rfl)) k1 bel lt1) trodAll_mk0)), rfl, bel.frame _, fun h => by cases h⟩

theorem fact0 : (Rows.integerKeepsRow.wf (OpenSpec.ofChange Rows.integerKeepsSpec) : Bool) = true := by kernel_rfl
theorem fact3 : (Try.f10.params.all (Try.prog.readableRec ·) : Bool) = true := by kernel_rfl
theorem fact4 : (namedTie Try.prog Rows.integerKeepsRow.named Rows.integerKeepsSpec.vars : Bool) = true := by kernel_rfl
theorem fact5 : ((Rows.integerKeepsRow.stops == []) : Bool) = true := by kernel_rfl
theorem fact7 : ((Rows.integerKeepsRow.knobs == []) : Bool) = true := by kernel_rfl
theorem fact9 : ((Rows.integerKeepsRow.inPlace == Try.prog.inPlace 10) : Bool) = true := by kernel_rfl
theorem fact10 : ((Rows.integerKeepsRow.unfollowed == Try.prog.unfollowed 10) : Bool) = true := by kernel_rfl
theorem fact11 : ((Rows.integerKeepsRow.recurses == Try.prog.recurses 10) : Bool) = true := by kernel_rfl
theorem fact12 : ((Rows.integerKeepsRow.named == Try.prog.varsNamed 10) : Bool) = true := by kernel_rfl
theorem fact13 : ((Rows.integerKeepsRow.maps == (Try.f10.params.toList ++ Rows.integerKeepsSpec.plain.varTypes Try.prog).any (Try.prog.mapsRec ·)) : Bool) = true := by kernel_rfl
theorem fact14 : ((Rows.integerKeepsRow.ifaces == (Try.f10.params.toList ++ Rows.integerKeepsSpec.plain.varTypes Try.prog).any (Try.prog.ifacesRec ·)) : Bool) = true := by kernel_rfl
theorem fact15 : ((Rows.integerKeepsRow.mapsOut == Try.prog.mapsAmong Try.f10.resultTypes.toList) : Bool) = true := by kernel_rfl
theorem fact16 : ((Rows.integerKeepsRow.loops == (Try.f10.params.toList ++ Rows.integerKeepsSpec.plain.varTypes Try.prog).any (Try.prog.loopsFrom ·)) : Bool) = true := by kernel_rfl
theorem fact17 : ((Rows.integerKeepsRow.wideKeys == (Try.f10.params.toList ++ Rows.integerKeepsSpec.plain.varTypes Try.prog ++ Try.f10.resultTypes.toList).any (Try.prog.wideKeysFrom ·)) : Bool) = true := by kernel_rfl
theorem fact18 : (Rows.integerKeepsSpec.vars.all (Try.prog.varReadable ·) : Bool) = true := by kernel_rfl
theorem fact19 : (Try.f10.resultTypes.all (fun t => Try.prog.readableRec t && decide (t < Try.prog.types.size)) : Bool) = true := by kernel_rfl
theorem fact20 : ((Rows.integerKeepsRow.ifacesOut == Try.f10.resultTypes.toList.any (Try.prog.ifacesRec ·)) : Bool) = true := by kernel_rfl
theorem fact21 : ((Rows.integerKeepsRow.loopsOut == Try.f10.resultTypes.toList.any (Try.prog.loopsFrom ·)) : Bool) = true := by kernel_rfl
theorem fact22 : ((Rows.integerKeepsRow.plainKeys == Try.prog.plainKeys) : Bool) = true := by kernel_rfl
theorem fact23 : (Rows.integerKeepsRow.shortTexts.isNone : Bool) = true := by kernel_rfl
theorem fact26 : ((Rows.integerKeepsRow.lifted == Try.prog.liftsFinal) : Bool) = true := by kernel_rfl
theorem fact27 : ((Try.prog.make == some Rows.integerKeepsRow.make) : Bool) = true := by kernel_rfl
theorem fact28 : ((Rows.integerKeepsRow.kinds == (if Rows.integerKeepsRow.domain.isEmpty then [] else Try.f10.params.toList.map fun t => match Try.prog.underlying t with | some (.int k) => some k | _ => none)) : Bool) = true := by kernel_rfl
theorem fact29 : ((Rows.integerKeepsRow.pinned == Rows.integerKeepsRow.pinnedBy) : Bool) = true := by kernel_rfl
theorem fact30 : ((Rows.integerKeepsRow.veiled == (Try.f10.params.toList ++ Rows.integerKeepsSpec.plain.varTypes Try.prog ++ Try.f10.resultTypes.toList).any (Try.prog.veiledRec ·)) : Bool) = true := by kernel_rfl
theorem fact31 : (Rows.integerKeepsRow.veiledFits Try.prog Try.f10.params.toList (Try.f10.params.toList ++ Rows.integerKeepsSpec.plain.varTypes Try.prog ++ Try.f10.resultTypes.toList) : Bool) = true := by kernel_rfl
set_option maxRecDepth 100000 in
theorem closed : joinedFacts Try.prog 10 Try.f10 Rows.integerKeepsSpec Rows.integerKeepsRow = true := and_true (and_true (and_true (and_true (and_true (and_true (and_true (and_true (and_true (and_true (and_true (and_true (and_true (and_true (and_true (and_true (and_true (and_true (and_true (and_true (and_true (and_true (and_true (and_true (and_true (and_true (and_true (and_true (and_true (and_true (and_true fact0 laidOut) shared_fact2) fact3) fact4) fact5) shared_fact6) fact7) shared_fact8) fact9) fact10) fact11) fact12) fact13) fact14) fact15) fact16) fact17) fact18) fact19) fact20) fact21) fact22) fact23) shared_fact24) shared_fact25) fact26) fact27) fact28) fact29) fact30) fact31

theorem over : Rows.integerKeepsRow.holds Try.pinned (OpenSpec.ofChange Rows.integerKeepsSpec) :=
  OpenClaim.holds_of_wide 10 Try.f10 rfl rfl rfl rfl rfl rfl rfl ⟨rfl, rfl, rfl, rfl, rfl⟩ rfl rfl rfl rfl rfl (by as_aux_lemma => kernel_rfl) Try.func10 closed
    (of_decide_eq_true (by kernel_rfl)) (by unfold Func.isWrapper; first | (rw [if_pos (by decide +kernel)]; kernel_rfl) | (rw [if_neg (by decide +kernel)]; exact ⟨rfl, rfl⟩))
    (fun os started H enc _ => lifted os started H enc)

theorem proved : Rows.IntegerKeepsSaid := over
#print axioms proved
end Go.Proofs.Ytcccabgeoaidjaa.integerKeepsDone
