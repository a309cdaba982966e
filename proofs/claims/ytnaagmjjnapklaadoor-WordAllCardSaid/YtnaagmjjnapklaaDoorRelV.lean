/- A region that draws its order, met by a relation an operation that may speak of the values of the operations that it waits for. No condition. -/
import Derived.Test.YtnaagmjjnapklaaDoorRel
namespace Go.Proofs.YtnaagmjjnapklaaDoor
open Go.RowKit

section
variable {P : Program}
def upd (vs : Nat → Value) (i : Nat) (v : Value) : Nat → Value := fun k => if k = i then v else vs k
theorem upd_same (vs : Nat → Value) (i : Nat) (v : Value) : upd vs i v i = v := if_pos rfl
theorem upd_other (vs : Nat → Value) {i j : Nat} (v : Value) (h : j ≠ i) : upd vs i v j = vs j := if_neg h
structure RelStV (l : List Oper) (C : World → Prop) (R : (Nat → Value) → Nat → World → Prop) (a0 : Act) (listed : Array Bool) (a : Act) (w : World) : Prop where
  c : C w
  size : a.tmps.size = a0.tmps.size
  defers : a.defers = a0.defers
  far : ∀ t, farB l t = true → a.tmps[t]? = a0.tmps[t]?
  clos : ∀ i o, l[i]? = some o → listed.getD i false = true → ∀ e ∈ o.after, Region.binds .any e = true → listed.getD e.on false = true
  rel : ∃ vs : Nat → Value, ∀ i o, l[i]? = some o → listed.getD i false = true → (∀ d, o.dst = some d → a.tmps[d]? = some (vs i)) ∧ R vs i w
/-- What an operation is asked. -/
def RelStepV (P : Program) (l : List Oper) (C : World → Prop) (R : (Nat → Value) → Nat → World → Prop) (Q : Exit → Act → World → Prop) (a0 : Act) (i : Nat) (o : Oper) : Prop :=
  ∀ a w vs, C w → (∀ t, farB l t = true → a.eval (.tmp t) = a0.eval (.tmp t)) → (∀ j oj, l[j]? = some oj → waitsB o j = true → (∀ d, oj.dst = some d → a.eval (.tmp d) = vs j) ∧ R vs j w) →
    wpOp P l.toArray Q i (fun a' w' => ∃ v, a' = a.put o.dst v ∧ C w' ∧ R (upd vs i v) i w' ∧ ∀ us j, R us j w → R us j w') a w
/-- A relation speaks of the operation itself and of what it waits for. -/
def NearV (l : List Oper) (R : (Nat → Value) → Nat → World → Prop) : Prop := ∀ vs us i o w, l[i]? = some o → (∀ j, (j = i ∨ waitsB o j = true) → vs j = us j) → R vs i w → R us i w
theorem wpAny_relV {l : List Oper} {C : World → Prop} {R : (Nat → Value) → Nat → World → Prop} {a0 : Act} {Q : Exit → Act → World → Prop} (hac : acycB l 0 = true) (hds : dstsB a0.tmps.size l = true) (hnear : NearV l R)
    (hstep : ∀ i o, l[i]? = some o → RelStepV P l C R Q a0 i o)
    (hend : ∀ vs w', C w' → (∀ i o, l[i]? = some o → R vs i w') → Q .normal (putAll l 0 vs a0) w') :
    ∀ (fuel : Nat) (listed : Array Bool) (a : Act) (w : World), listed.size = l.length → listed.toList.count false ≤ fuel → RelStV l C R a0 listed a w → wpAny P .any l.toArray Q fuel listed a w := by
  have hall : ∀ (listed : Array Bool), listed.size = l.length → Region.ready .any l.toArray listed = [] → ∀ i, i < l.length → listed.getD i false = true := by
    intro listed hsz hr i
    induction i using Nat.strongRecOn with
    | ind i ih =>
      intro hi
      by_cases hl : listed.getD i true = false
      · have : i ∈ Region.ready .any l.toArray listed := mem_ready.2 ⟨hl, l[i], by simp [hi], fun e he hb => by
          have := acyc_spec hac i l[i] (by simp [hi]) e he hb
          exact ih e.on (by omega) (by omega)⟩
        rw [hr] at this
        cases this
      · simp only [Array.getD_eq_getD_getElem?, Array.getElem?_eq_getElem (show i < listed.size by omega), Option.getD_some] at hl ⊢
        simpa using hl
  have hfin : ∀ (listed : Array Bool) (a : Act) (w : World), listed.size = l.length → Region.ready .any l.toArray listed = [] → RelStV l C R a0 listed a w → Q .normal a w := by
    intro listed a w hsz hr hst
    have ha := hall listed hsz hr
    obtain ⟨V, hV0⟩ := hst.rel
    have hV : ∀ i o, l[i]? = some o → (∀ d, o.dst = some d → a.tmps[d]? = some (V i)) ∧ R V i w := fun i o ho => hV0 i o ho (ha i (List.getElem?_eq_some_iff.1 ho).1)
    have hx := hend V w hst.c (fun i o ho => (hV i o ho).2)
    have e : putAll l 0 V a0 = a := by
      have hd := putAll_defers l 0 V a0
      have ht := fun t => putAll_get (fun d => a.eval (.tmp d)) l 0 V a0 t (fun i o d ho hd => by
        have := (hV i o ho).1 d hd
        simp only [Nat.zero_add, Act.eval, Array.getD_eq_getD_getElem?, this, Option.getD_some])
      generalize putAll l 0 V a0 = b at hd ht
      obtain ⟨bt, bd⟩ := b
      obtain ⟨at_, ad⟩ := a
      have h1 : bd = ad := hd.trans hst.defers.symm
      subst h1
      congr 1
      apply Array.ext'
      apply List.ext_getElem?
      intro t
      have h2 := ht t
      simp only [Array.getElem?_toList]
      refine h2.trans ?_
      split
      · rename_i hany
        obtain ⟨o, ho, hot⟩ := List.any_eq_true.1 hany
        have hot' : o.dst = some t := by simpa using hot
        obtain ⟨i, hi, hio⟩ := List.mem_iff_getElem.1 ho
        have hlt := dsts_lt hds i o t (by simp [hi, hio]) hot'
        rw [if_pos hlt]
        have hsz2 := hst.size
        simp only at hsz2
        simp only [Act.eval, Array.getD_eq_getD_getElem?]
        rw [Array.getElem?_eq_getElem (show t < at_.size by rw [hsz2]; exact hlt)]
        rfl
      · rename_i hany
        refine (hst.far t ?_).symm
        simp only [farB, List.all_eq_true, bne_iff_ne, ne_eq]
        intro p hp hpt
        exact hany (List.any_eq_true.2 ⟨p, hp, by simp [hpt]⟩)
    rw [e] at hx
    exact hx
  intro fuel
  induction fuel with
  | zero =>
    intro listed a w hsz hc hst
    have hr : Region.ready .any l.toArray listed = [] := by
      apply List.eq_nil_iff_forall_not_mem.2
      intro j hj
      obtain ⟨h1, o, h2, _⟩ := mem_ready.1 hj
      have hlt : j < l.length := by simpa using (Array.getElem?_eq_some_iff.1 h2).1
      have hm : false ∈ listed.toList := by
        rw [Array.getD_eq_getD_getElem?, Array.getElem?_eq_getElem (by omega), Option.getD_some] at h1
        rw [← h1]
        simp
      have := List.count_pos_iff.2 hm
      omega
    exact ⟨hr, hfin listed a w hsz hr hst⟩
  | succ fuel ih =>
    intro listed a w hsz hc hst
    refine ⟨fun hr => hfin listed a w hsz hr hst, fun i hi => ?_⟩
    obtain ⟨h1, o, h2, h3⟩ := mem_ready.1 hi
    have hil : i < l.length := by simpa using (Array.getElem?_eq_some_iff.1 h2).1
    have h2' : l[i]? = some o := by simpa using h2
    have hfar' : ∀ t, farB l t = true → a.eval (.tmp t) = a0.eval (.tmp t) := fun t ht => eval_tmp (hst.far t ht)
    obtain ⟨vs, hvs⟩ := hst.rel
    refine wpOp_mono ?_ (hstep i o h2' a w vs hst.c hfar' (fun j oj hj hw => by
      obtain ⟨e, he, hee⟩ : ∃ e ∈ o.after, (Region.binds .any e && e.on == j) = true := by
        obtain ⟨k, hk, hh⟩ := Array.any_eq_true.1 hw
        exact ⟨_, Array.getElem_mem hk, hh⟩
      simp only [Bool.and_eq_true, beq_iff_eq] at hee
      have hl := h3 e he hee.1
      rw [hee.2] at hl
      obtain ⟨hv, hR⟩ := hvs j oj hj hl
      exact ⟨fun d hd => by simp only [Act.eval, Array.getD_eq_getD_getElem?, hv d hd, Option.getD_some], hR⟩))
    rintro a' w' ⟨v, rfl, hC, hR, hk⟩
    have hget : listed[i]? = some false := by
      rw [Array.getD_eq_getD_getElem?, Array.getElem?_eq_getElem (by omega), Option.getD_some] at h1
      rw [Array.getElem?_eq_getElem (by omega), h1]
    have h1' : listed.getD i false = false := by rw [Array.getD_eq_getD_getElem?, hget]; rfl
    have hready := hst.clos
    have hstay : ∀ k, listed.getD k false = true → (listed.setIfInBounds i true).getD k false = true := fun k hk => by
      have hki : i ≠ k := by rintro rfl; rw [h1'] at hk; cases hk
      rw [Array.getD_eq_getD_getElem?, Array.getElem?_setIfInBounds_ne hki, ← Array.getD_eq_getD_getElem?]
      exact hk
    have hclos : ∀ j p, l[j]? = some p → (listed.setIfInBounds i true).getD j false = true → ∀ e ∈ p.after, Region.binds .any e = true → (listed.setIfInBounds i true).getD e.on false = true := fun j p hj hl e he hb => by
      by_cases hij : i = j
      · subst hij
        obtain rfl : o = p := by rw [h2'] at hj; exact Option.some.inj hj
        exact hstay _ (h3 e he hb)
      · refine hstay _ (hready j p hj ?_ e he hb)
        rw [Array.getD_eq_getD_getElem?, Array.getElem?_setIfInBounds_ne hij] at hl
        rw [Array.getD_eq_getD_getElem?]; exact hl
    refine ih (listed.setIfInBounds i true) (a.put o.dst v) w' (by simpa using hsz) ?_ ⟨hC, (put_size _ _ _).trans hst.size, (put_defers' _ _ _).trans hst.defers, fun t ht => ?_, hclos, ⟨upd vs i v, fun j p hj hl => ?_⟩⟩
    · have hlt : i < listed.toList.length := by simp; omega
      rw [Array.toList_setIfInBounds, List.count_set hlt]
      have hfi : listed.toList[i] = false := by
        have := hget
        rw [Array.getElem?_eq_getElem (by omega)] at this
        simpa using this
      have hm : false ∈ listed.toList := by rw [← hfi]; exact List.getElem_mem _
      have := List.count_pos_iff.2 hm
      rw [hfi]
      simp only [beq_self_eq_true, if_true, show (true == false) = false from rfl, Bool.false_eq_true, if_false]
      omega
    · rw [put_get, if_neg]
      · exact hst.far t ht
      · intro hot
        have := List.all_eq_true.1 ht o (List.mem_of_getElem? h2')
        simp [hot] at this
    · by_cases hij : i = j
      · subst hij
        obtain rfl : o = p := by rw [h2'] at hj; exact Option.some.inj hj
        refine ⟨fun d hd => ?_, hR⟩
        rw [put_get, if_pos hd, if_pos]
        · rw [upd_same]
        · rw [hst.size]
          exact dsts_lt hds i o d h2' hd
      · have hlj : listed.getD j false = true := by
          rw [Array.getD_eq_getD_getElem?, Array.getElem?_setIfInBounds_ne hij] at hl
          rw [Array.getD_eq_getD_getElem?]; exact hl
        obtain ⟨hu, hRu⟩ := hvs j p hj hlj
        refine ⟨fun d hd => ?_, ?_⟩
        · rw [put_get, if_neg (dsts_ne hds j i p o d hj h2' (Ne.symm hij) hd), upd_other vs v (Ne.symm hij)]
          exact hu d hd
        · refine hk _ _ (hnear vs _ j p w hj (fun k hk => ?_) hRu)
          rcases hk with rfl | hk
          · exact (upd_other vs v (Ne.symm hij)).symm
          · have hki : k ≠ i := by
              rintro rfl
              obtain ⟨m, hm, hh⟩ := Array.any_eq_true.1 hk
              simp only [Bool.and_eq_true, beq_iff_eq] at hh
              have hz := hready j p hj hlj (p.after[m]) (Array.getElem_mem hm) hh.1
              rw [hh.2, h1'] at hz
              cases hz
            exact (upd_other vs v hki).symm
/-- A region that draws its order: one step an operation. -/
theorem wp_region_relV {id : Nat} {l : List Oper} {Q : Exit → Act → World → Prop} {a : Act} {w : World} (C : World → Prop) (R : (Nat → Value) → Nat → World → Prop) (hm : P.follows .mixedOrders = true) (hac : acycB l 0 = true) (hds : dstsB a.tmps.size l = true) (hC : C (w.drewN 1)) (hnear : NearV l R)
    (hstep : AllSteps (RelStepV P l C R Q a) l 0)
    (hend : ∀ vs w', C w' → AllSteps (fun i _ => R vs i w') l 0 → Q .normal (putAll l 0 vs a) w') : (Code.region id l.toArray true).wp P Q a w := by
  refine wp_region_any hm ?_
  refine wpAny_relV hac hds hnear (fun i o ho => by have := allSteps_spec hstep i o ho; rwa [Nat.zero_add] at this) (fun vs w' hc hv => hend vs w' hc ?_) _ _ _ _ (by simp) ?_ ⟨hC, rfl, rfl, fun _ _ => rfl, fun i o _ hl => ?_, ⟨fun _ => undef, fun i o _ hl => ?_⟩⟩
  · have : ∀ (m : List Oper) (k : Nat), (∀ i o, m[i]? = some o → l[k + i]? = some o) → AllSteps (fun i _ => R vs i w') m k := by
      intro m
      induction m with
      | nil => intro _ _; trivial
      | cons o m ih =>
        intro k h
        exact ⟨hv k o (by have := h 0 o rfl; simpa using this), ih (k + 1) (fun i p hp => by have := h (i + 1) p (by simpa using hp); rw [← this]; congr 1; omega)⟩
    exact this l 0 (fun i o h => by simpa using h)
  · simp
  · exfalso
    rw [Array.getD_eq_getD_getElem?, Array.getElem?_replicate] at hl
    split at hl <;> simp at hl
  · exfalso
    rw [Array.getD_eq_getD_getElem?, Array.getElem?_replicate] at hl
    split at hl <;> simp at hl
section
variable {l : List Oper} {C : World → Prop} {R : (Nat → Value) → Nat → World → Prop} {Q : Exit → Act → World → Prop} {i : Nat} {o : Oper} {a : Act} {w w' : World} {v : Value} {vs : Nat → Value}
/-- An operation without a guard that yields a value. -/
theorem relV_value (ho : l[i]? = some o) (hg : o.guard = none) (he : (execOp a.eval o).run P w = .ok (.value v) w') (hC : C w') (hR : R (upd vs i v) i w') (hk : ∀ us j, R us j w → R us j w') :
    wpOp P l.toArray Q i (fun a' w' => ∃ v, a' = a.put o.dst v ∧ C w' ∧ R (upd vs i v) i w' ∧ ∀ us j, R us j w → R us j w') a w := by
  unfold wpOp
  simp only [List.getElem?_toArray, ho, Region.wanted, hg, if_true]
  left
  unfold Oper.wp
  rw [he]
  exact ⟨v, rfl, hC, hR, hk⟩
theorem relV_skip (ho : l[i]? = some o) (hg : o.guard = none) (he : (execOp a.eval o).run P w = .ok .skip w') (hC : C w') (hR : R (upd vs i undef) i w') (hk : ∀ us j, R us j w → R us j w') :
    wpOp P l.toArray Q i (fun a' w' => ∃ v, a' = a.put o.dst v ∧ C w' ∧ R (upd vs i v) i w' ∧ ∀ us j, R us j w → R us j w') a w := by
  unfold wpOp
  simp only [List.getElem?_toArray, ho, Region.wanted, hg, if_true]
  left
  unfold Oper.wp
  rw [he]
  exact ⟨undef, rfl, hC, hR, hk⟩
theorem relV_call {f : FuncId} {args : Array Value} (ho : l[i]? = some o) (hg : o.guard = none) (he : (execOp a.eval o).run P w = .ok (.enter f args) w)
    (hc : Calls P f args w fun e w' => ∃ v, e = .returned v ∧ C w' ∧ R (upd vs i v) i w' ∧ ∀ us j, R us j w → R us j w') :
    wpOp P l.toArray Q i (fun a' w' => ∃ v, a' = a.put o.dst v ∧ C w' ∧ R (upd vs i v) i w' ∧ ∀ us j, R us j w → R us j w') a w := by
  unfold wpOp
  simp only [List.getElem?_toArray, ho, Region.wanted, hg, if_true]
  left
  unfold Oper.wp
  rw [he]
  refine hc.mono ?_
  rintro e w' ⟨v, rfl, h⟩
  exact ⟨v, rfl, h⟩
end
theorem exec_call2 {a : Act} {w : World} {o : Oper} {f : FuncId} {x y : Operand} {t t2 : TypeId} {v v2 : Value} (ho : o.op = .call { callee := .value (.func f), args := #[x, y], argTypes := #[t, t2] }) (hx : a.eval x = v) (hy : a.eval y = v2) (hfn : ∀ args w, (callFunc f args).run P w = .ok (.enter f args) w) :
    (execOp a.eval o).run P w = .ok (.enter f #[v, v2]) w := by
  have e1 : (#[x, y].map a.eval) = #[v, v2] := by simp [hx, hy]
  have e2 : a.eval (.func f) = .func (.func f) #[] #[] := rfl
  have := hfn #[v, v2] w
  unfold execOp
  simp only [ho, resolve, e1, e2, Deferred.ofValue, invoke, Sem.run_bind, Sem.run_pure, Result.andThen_ok]
  simpa using this
end
end Go.Proofs.YtnaagmjjnapklaaDoor
