/- A region that draws its order, walked ONCE whatever the order: each operation is shown alone, under an invariant that speaks of what is listed. No program in sight. -/
import Derived.StillTail
import Derived.Deep.RegionHeld3
import Derived.Test.YtcccabgeoaidjaaBase
namespace Go.Proofs.Ytcccabgeoaidjaa
open Go.RowKit
theorem count_le (p p' : Nat → Bool) (h : ∀ j, p' j = true → p j = true) : ∀ l : List Nat, (l.filter p').length ≤ (l.filter p).length
  | [] => Nat.le_refl _
  | x :: l => by
    have ih := count_le p p' h l
    by_cases h1 : p' x = true
    · rw [List.filter_cons_of_pos h1, List.filter_cons_of_pos (h x h1)]; simpa using ih
    · rw [List.filter_cons_of_neg h1]
      by_cases h2 : p x = true
      · rw [List.filter_cons_of_pos h2]; simp; omega
      · rw [List.filter_cons_of_neg h2]; exact ih
theorem count_lt (p p' : Nat → Bool) (h : ∀ j, p' j = true → p j = true) (i : Nat) (hp : p i = true) (hp' : p' i = false) : ∀ l : List Nat, i ∈ l → (l.filter p').length < (l.filter p).length
  | [], hi => by cases hi
  | x :: l, hi => by
    have hle := count_le p p' h l
    by_cases hx : x = i
    · subst hx
      rw [List.filter_cons_of_pos hp, List.filter_cons_of_neg (by rw [hp']; simp)]
      simp; omega
    · have hil : i ∈ l := by
        rcases List.mem_cons.1 hi with h1 | h1
        · exact absurd h1.symm hx
        · exact h1
      have ih := count_lt p p' h i hp hp' l hil
      by_cases h1 : p' x = true
      · rw [List.filter_cons_of_pos h1, List.filter_cons_of_pos (h x h1)]; simpa using ih
      · rw [List.filter_cons_of_neg h1]
        by_cases h2 : p x = true
        · rw [List.filter_cons_of_pos h2]; simp; omega
        · rw [List.filter_cons_of_neg h2]; exact ih
section
variable {P : Program} {ops : Array Oper} {Q : Exit → Act → World → Prop} {md : Region.Mode}
/-- How many operations are not listed. -/
def unlisted (n : Nat) (listed : Array Bool) : Nat := ((List.range n).filter fun j => !listed.getD j true).length
theorem unlisted_set {n i : Nat} {listed : Array Bool} (hi : i < n) (hl : listed.getD i true = false) : unlisted n (listed.setIfInBounds i true) < unlisted n listed := by
  refine count_lt _ _ (fun j hj => ?_) i (by rw [hl]; rfl) ?_ _ (List.mem_range.2 hi)
  · by_cases hji : i = j
    · subst hji
      by_cases hs : i < listed.size
      · simp [Array.getD, hs] at hj
      · simp [Array.getD, hs] at hj
    · rwa [getD_set_ne true hji] at hj
  · by_cases hs : i < listed.size
    · simp [Array.getD, hs]
    · simp [Array.getD, hs] at hl
/-- The law: an invariant over what is listed, kept by each operation that may come up; at the end it gives the post. -/
theorem wpAny_flow {Inv : Array Bool → Act → World → Prop}
    (hstep : ∀ i o, ops[i]? = some o → ∀ listed a w, Inv listed a w → listed.getD i true = false → (∀ e ∈ o.after, Region.binds md e = true → listed.getD e.on false = true) → wpOp P ops Q i (fun a' w' => Inv (listed.setIfInBounds i true) a' w') a w)
    (hend : ∀ listed a w, Inv listed a w → Region.ready md ops listed = [] → Q .normal a w) :
    ∀ fuel listed a w, unlisted ops.size listed ≤ fuel → Inv listed a w → wpAny P md ops Q fuel listed a w := by
  intro fuel
  induction fuel with
  | zero =>
    intro listed a w hf hI
    have hr : Region.ready md ops listed = [] := by
      refine List.eq_nil_iff_forall_not_mem.2 fun j hj => ?_
      obtain ⟨h1, o, ho, _⟩ := mem_ready.1 hj
      have hlt := (Array.getElem?_eq_some_iff.1 ho).1
      have := unlisted_set (n := ops.size) hlt h1
      omega
    exact ⟨hr, hend listed a w hI hr⟩
  | succ fuel ih =>
    intro listed a w hf hI
    refine ⟨hend listed a w hI, fun i hi => ?_⟩
    obtain ⟨h1, o, ho, h2⟩ := mem_ready.1 hi
    have hlt := (Array.getElem?_eq_some_iff.1 ho).1
    have h3 := unlisted_set (n := ops.size) hlt h1
    exact wpOp_mono (fun a' w' h => ih _ a' w' (by omega) h) (hstep i o ho listed a w hI h1 h2)
theorem unlisted_le (n : Nat) (listed : Array Bool) : unlisted n listed ≤ n := by
  unfold unlisted
  exact Nat.le_trans (List.length_filter_le _ _) (by rw [List.length_range]; exact Nat.le_refl _)
theorem getD_replicate_false' (n j : Nat) : (Array.replicate n false).getD j false = false := by
  by_cases h : j < n
  · simp [Array.getD, h]
  · simp [Array.getD, h]
theorem wp_region_flow {id : Nat} {a : Act} {w : World} {Inv : Array Bool → Act → World → Prop} (hm : P.follows .mixedOrders = true) (hI : Inv (Array.replicate ops.size false) a w.drew)
    (hstep : ∀ i o, ops[i]? = some o → ∀ listed a w, Inv listed a w → listed.getD i true = false → (∀ e ∈ o.after, Region.binds .any e = true → listed.getD e.on false = true) → wpOp P ops Q i (fun a' w' => Inv (listed.setIfInBounds i true) a' w') a w)
    (hend : ∀ listed a w, Inv listed a w → Region.ready .any ops listed = [] → Q .normal a w) : (Code.region id ops true).wp P Q a w :=
  wp_region_any hm (wpAny_flow hstep hend _ _ _ _ (unlisted_le _ _) hI)
/-- A frame's values, one a number; one of them set. -/
def updU (u : Nat → Value) (i : Nat) (v : Value) : Nat → Value := fun k => if k = i then v else u k
/-- Every operation waits for earlier ones alone. -/
def lowB (ops : Array Oper) : Bool := (List.range ops.size).all fun i => ((ops[i]?).map fun o => o.after.all fun e => decide (e.on < i)).getD true
theorem lowB_spec (h : lowB ops = true) {i : Nat} {o : Oper} (ho : ops[i]? = some o) : ∀ e ∈ o.after, e.on < i := by
  intro e he
  have hlt := (Array.getElem?_eq_some_iff.1 ho).1
  have h1 := List.all_eq_true.1 h i (List.mem_range.2 hlt)
  rw [ho] at h1
  simp only [Option.map_some, Option.getD_some] at h1
  exact of_decide_eq_true (Array.all_eq_true_iff_forall_mem.1 h1 e he)
theorem all_listed {listed : Array Bool} (hs : listed.size = ops.size) (hl : lowB ops = true) (hr : Region.ready md ops listed = []) : ∀ j, j < ops.size → listed.getD j false = true := by
  intro j
  induction j using Nat.strongRecOn with
  | _ j ih =>
    intro hj
    cases hg : listed.getD j false with
    | true => rfl
    | false =>
      exfalso
      have hj' : j < listed.size := by omega
      have h1 : listed.getD j true = false := by simp [Array.getD, hj'] at hg ⊢; exact hg
      have hm : j ∈ Region.ready md ops listed := mem_ready.2 ⟨h1, ops[j], Array.getElem?_eq_getElem hj, fun e he _ => by
        have h2 := lowB_spec hl (Array.getElem?_eq_getElem hj) e he
        exact ih _ h2 (by omega)⟩
      rw [hr] at hm
      cases hm
/-- The law in use: every operation yields a value of which F tells, under facts on what it waits for; F lives on in whatever is only added to. -/
theorem wp_region_flowU {id : Nat} {a : Act} {w : World} (mk : (Nat → Value) → Act) (F : Nat → Value → World → Prop) (u0 : Nat → Value) (hm : P.follows .mixedOrders = true) (hlow : lowB ops = true) (h0 : a = mk u0)
    (hF : ∀ j v w1 w2, F j v w1 → Ext w1 w2 → F j v w2)
    (hstep : ∀ i o, ops[i]? = some o → ∀ u w1, Ext w w1 → (∀ e ∈ o.after, Region.binds .any e = true → F e.on (u e.on) w1) →
      ∀ K : Act → World → Prop, Hid (∀ v w2, Ext w1 w2 → F i v w2 → K (mk (updU u i v)) w2) → if Region.wanted o (yielded ops (mk u).tmps) = true then Oper.wp P o (mk u) w1 K Q else K ((mk u).put o.dst undef) w1)
    (hend : ∀ u w1, Ext w w1 → (∀ j, j < ops.size → F j (u j) w1) → Q .normal (mk u) w1) : (Code.region id ops true).wp P Q a w := by
  refine wp_region_flow (Inv := fun listed a' w' => ∃ u, a' = mk u ∧ Ext w w' ∧ listed.size = ops.size ∧ ∀ j, listed.getD j false = true → F j (u j) w') hm ⟨u0, h0, Ext.drew _, by simp, fun j hj => ?_⟩ ?_ ?_
  · rw [getD_replicate_false'] at hj
    cases hj
  · rintro i o ho listed a' w' ⟨u, rfl, hx, hs, hf⟩ hl hd
    refine wpOp_step ho (fun K hK => ?_)
    refine hstep i o ho u w' hx (fun e he hb => hf _ (hd e he hb)) K (Lib.hid (fun v w2 hx2 hv => hK _ _ ⟨updU u i v, rfl, hx.trans hx2, by simpa using hs, fun j hj => ?_⟩))
    by_cases hji : j = i
    · subst hji
      unfold updU
      rw [if_pos rfl]
      exact hv
    · unfold updU
      rw [if_neg hji]
      refine hF _ _ _ _ (hf j ?_) hx2
      by_cases hlt : j < listed.size
      · simpa [Array.getD, hlt, Ne.symm hji] using hj
      · simp [Array.getD, hlt] at hj
  · rintro listed a' w' ⟨u, rfl, hx, hs, hf⟩ hr
    refine hend u w' hx (fun j hj => hf j (all_listed hs hlow hr j hj))
end
end Go.Proofs.Ytcccabgeoaidjaa
