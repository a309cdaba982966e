/- A region that draws its order, met by a relation an operation: whatever the order, the value of each operation stands in its relation to the world. No condition. -/
import Derived.Test.YtnaagmjjnapklaaDoorBase
import Derived.Deep.QuietTactic
import Derived.BigQuiet
namespace Go.Proofs.YtnaagmjjnapklaaDoor
open Go.RowKit

section
variable {P : Program}
def putAll : List Oper → Nat → (Nat → Value) → Act → Act
  | [], _, _, a => a
  | o :: l, k, vs, a => putAll l (k + 1) vs (a.put o.dst (vs k))
/-- Each operation waits for earlier ones alone. -/
def acycB : List Oper → Nat → Bool
  | [], _ => true
  | o :: l, k => o.after.all (fun e => !Region.binds .any e || decide (e.on < k)) && acycB l (k + 1)
def dstsB (n : Nat) : List Oper → Bool
  | [] => true
  | o :: l => (match o.dst with | none => true | some d => decide (d < n) && l.all (fun p => p.dst != some d)) && dstsB n l
def farB (l : List Oper) (t : Nat) : Bool := l.all fun p => p.dst != some t
def waitsB (o : Oper) (j : Nat) : Bool := o.after.any fun e => Region.binds .any e && e.on == j
theorem acyc_spec : ∀ {l : List Oper} {k : Nat}, acycB l k = true → ∀ i o, l[i]? = some o → ∀ e ∈ o.after, Region.binds .any e = true → e.on < k + i
  | [], _, _, _, _, ho => by simp at ho
  | x :: l, k, h, i, o, ho => fun e he hb => by
    simp only [acycB, Bool.and_eq_true, Array.all_eq_true_iff_forall_mem] at h
    rcases i with _ | i
    · simp only [List.getElem?_cons_zero, Option.some.injEq] at ho
      subst ho
      simpa [hb] using h.1 e he
    · simp only [List.getElem?_cons_succ] at ho
      have := acyc_spec h.2 i o ho e he hb
      omega
theorem dsts_lt {n : Nat} : ∀ {l : List Oper}, dstsB n l = true → ∀ (i : Nat) (o : Oper) (d : Tmp), l[i]? = some o → o.dst = some d → d < n
  | [], _, _, _, _, ho, _ => by simp at ho
  | x :: l, h, i, o, d, ho, hd => by
    simp only [dstsB, Bool.and_eq_true] at h
    rcases i with _ | i
    · simp only [List.getElem?_cons_zero, Option.some.injEq] at ho
      subst ho
      rw [hd] at h
      simp only [Bool.and_eq_true, decide_eq_true_eq] at h
      exact h.1.1
    · exact dsts_lt h.2 i o d (by simpa using ho) hd
theorem dsts_ne {n : Nat} : ∀ {l : List Oper}, dstsB n l = true → ∀ (i j : Nat) (o p : Oper) (d : Tmp), l[i]? = some o → l[j]? = some p → i ≠ j → o.dst = some d → p.dst ≠ some d
  | [], _, _, _, _, _, _, ho, _, _, _ => by simp at ho
  | x :: l, h, i, j, o, p, d, ho, hp, hij, hd => by
    simp only [dstsB, Bool.and_eq_true] at h
    rcases i with _ | i <;> rcases j with _ | j
    · exact absurd rfl hij
    · simp only [List.getElem?_cons_zero, List.getElem?_cons_succ, Option.some.injEq] at ho hp
      subst ho
      rw [hd] at h
      simp only [Bool.and_eq_true, List.all_eq_true] at h
      simpa using h.1.2 p (List.mem_of_getElem? hp)
    · simp only [List.getElem?_cons_zero, List.getElem?_cons_succ, Option.some.injEq] at ho hp
      subst hp
      intro hx
      rw [hx] at h
      simp only [Bool.and_eq_true, List.all_eq_true] at h
      exact absurd hd (by simpa using h.1.2 o (List.mem_of_getElem? ho))
    · simp only [List.getElem?_cons_succ] at ho hp
      exact dsts_ne h.2 i j o p d ho hp (by omega) hd
theorem put_get (a : Act) (dst : Option Tmp) (v : Value) (t : Nat) : (a.put dst v).tmps[t]? = if dst = some t then (if t < a.tmps.size then some v else none) else a.tmps[t]? := by
  cases dst with
  | none => simp [Act.put]
  | some d =>
    simp only [Act.put, Array.getElem?_setIfInBounds, Option.some.injEq]
    by_cases h : d = t
    · subst h; simp
    · simp [h]
theorem put_size (a : Act) (dst : Option Tmp) (v : Value) : (a.put dst v).tmps.size = a.tmps.size := by cases dst <;> simp [Act.put]
theorem put_defers' (a : Act) (dst : Option Tmp) (v : Value) : (a.put dst v).defers = a.defers := by cases dst <;> rfl
theorem putAll_size : ∀ (l : List Oper) (k : Nat) (vs : Nat → Value) (a : Act), (putAll l k vs a).tmps.size = a.tmps.size
  | [], _, _, _ => rfl
  | o :: l, k, vs, a => (putAll_size l (k + 1) vs _).trans (put_size a o.dst _)
theorem putAll_defers : ∀ (l : List Oper) (k : Nat) (vs : Nat → Value) (a : Act), (putAll l k vs a).defers = a.defers
  | [], _, _, _ => rfl
  | o :: l, k, vs, a => (putAll_defers l (k + 1) vs _).trans (put_defers' a o.dst _)
theorem putAll_get (u : Nat → Value) : ∀ (l : List Oper) (k : Nat) (vs : Nat → Value) (a : Act) (t : Nat), (∀ i o d, l[i]? = some o → o.dst = some d → vs (k + i) = u d) →
    (putAll l k vs a).tmps[t]? = if l.any (fun o => o.dst == some t) then (if t < a.tmps.size then some (u t) else none) else a.tmps[t]?
  | [], _, _, _, _, _ => by simp [putAll]
  | o :: l, k, vs, a, t, h => by
    rw [putAll, putAll_get u l (k + 1) vs _ t (fun i p d hp hd => by have := h (i + 1) p d (by simpa using hp) hd; rw [← this]; congr 1; omega), put_size, put_get]
    simp only [List.any_cons]
    by_cases hl : (l.any fun o => o.dst == some t) = true
    · simp [hl]
    · by_cases ho : o.dst = some t
      · have := h 0 o t rfl ho
        simp only [Nat.add_zero] at this
        simp [hl, ho, this]
      · simp [hl, ho]

structure RelSt (l : List Oper) (C : World → Prop) (R : Nat → Value → World → Prop) (a0 : Act) (listed : Array Bool) (a : Act) (w : World) : Prop where
  c : C w
  size : a.tmps.size = a0.tmps.size
  defers : a.defers = a0.defers
  far : ∀ t, farB l t = true → a.tmps[t]? = a0.tmps[t]?
  rel : ∀ i o, l[i]? = some o → listed.getD i false = true → ∃ v, (∀ d, o.dst = some d → a.tmps[d]? = some v) ∧ R i v w
/-- What an operation is asked. -/
def RelStep (P : Program) (l : List Oper) (C : World → Prop) (R : Nat → Value → World → Prop) (Q : Exit → Act → World → Prop) (a0 : Act) (i : Nat) (o : Oper) : Prop :=
  ∀ a w, C w → (∀ t, farB l t = true → a.eval (.tmp t) = a0.eval (.tmp t)) → (∀ j oj, l[j]? = some oj → waitsB o j = true → ∃ v, (∀ d, oj.dst = some d → a.eval (.tmp d) = v) ∧ R j v w) →
    wpOp P l.toArray Q i (fun a' w' => ∃ v, a' = a.put o.dst v ∧ C w' ∧ R i v w' ∧ ∀ j u, R j u w → R j u w') a w
def AllSteps (f : Nat → Oper → Prop) : List Oper → Nat → Prop
  | [], _ => True
  | o :: l, k => f k o ∧ AllSteps f l (k + 1)
theorem allSteps_spec {f : Nat → Oper → Prop} : ∀ {l : List Oper} {k : Nat}, AllSteps f l k → ∀ i o, l[i]? = some o → f (k + i) o
  | [], _, _, _, _, ho => by simp at ho
  | x :: l, k, h, i, o, ho => by
    rcases i with _ | i
    · simp only [List.getElem?_cons_zero, Option.some.injEq] at ho
      subst ho
      exact h.1
    · have := allSteps_spec h.2 i o (by simpa using ho)
      rw [show k + (i + 1) = k + 1 + i by omega]
      exact this
theorem eval_tmp {a b : Act} {t : Nat} (h : a.tmps[t]? = b.tmps[t]?) : a.eval (.tmp t) = b.eval (.tmp t) := by
  simp only [Act.eval, Array.getD_eq_getD_getElem?, h]
theorem wpAny_rel {l : List Oper} {C : World → Prop} {R : Nat → Value → World → Prop} {a0 : Act} {Q : Exit → Act → World → Prop} (hac : acycB l 0 = true) (hds : dstsB a0.tmps.size l = true)
    (hstep : ∀ i o, l[i]? = some o → RelStep P l C R Q a0 i o)
    (hend : ∀ vs w', C w' → (∀ i o, l[i]? = some o → R i (vs i) w') → Q .normal (putAll l 0 vs a0) w') :
    ∀ (fuel : Nat) (listed : Array Bool) (a : Act) (w : World), listed.size = l.length → listed.toList.count false ≤ fuel → RelSt l C R a0 listed a w → wpAny P .any l.toArray Q fuel listed a w := by
  have hall : ∀ (listed : Array Bool), listed.size = l.length → Region.ready .any l.toArray listed = [] → ∀ i, i < l.length → listed.getD i false = true := by
    intro listed hsz hr i
    induction i using Nat.strongRecOn with
    | ind i ih =>
      intro hi
      by_cases hl : listed.getD i true = false
      · have : i ∈ Region.ready .any l.toArray listed := mem_ready.2 ⟨hl, l[i], by simp [hi], fun e he hb => by
          have := acyc_spec hac i l[i] (by simp [hi]) e he hb
          exact ih e.on (by omega) (by omega)⟩
        rw [hr] at this
        cases this
      · simp only [Array.getD_eq_getD_getElem?, Array.getElem?_eq_getElem (show i < listed.size by omega), Option.getD_some] at hl ⊢
        simpa using hl
  have hfin : ∀ (listed : Array Bool) (a : Act) (w : World), listed.size = l.length → Region.ready .any l.toArray listed = [] → RelSt l C R a0 listed a w → Q .normal a w := by
    intro listed a w hsz hr hst
    have ha := hall listed hsz hr
    obtain ⟨V, hV⟩ : ∃ V : Nat → Value, ∀ i o, l[i]? = some o → (∀ d, o.dst = some d → a.tmps[d]? = some (V i)) ∧ R i (V i) w := by
      have : ∀ i, ∃ v, ∀ o, l[i]? = some o → (∀ d, o.dst = some d → a.tmps[d]? = some v) ∧ R i v w := fun i => by
        cases ho : l[i]? with
        | none => exact ⟨undef, fun o h => by cases h⟩
        | some o =>
          obtain ⟨v, hv, hR⟩ := hst.rel i o ho (ha i (List.getElem?_eq_some_iff.1 ho).1)
          exact ⟨v, fun o' h => by obtain rfl := Option.some.inj h; exact ⟨hv, hR⟩⟩
      exact ⟨fun i => (this i).choose, fun i o ho => (this i).choose_spec o ho⟩
    have hx := hend V w hst.c (fun i o ho => (hV i o ho).2)
    have e : putAll l 0 V a0 = a := by
      have hd := putAll_defers l 0 V a0
      have ht := fun t => putAll_get (fun d => a.eval (.tmp d)) l 0 V a0 t (fun i o d ho hd => by
        have := (hV i o ho).1 d hd
        simp only [Nat.zero_add, Act.eval, Array.getD_eq_getD_getElem?, this, Option.getD_some])
      generalize putAll l 0 V a0 = b at hd ht
      obtain ⟨bt, bd⟩ := b
      obtain ⟨at_, ad⟩ := a
      have h1 : bd = ad := hd.trans hst.defers.symm
      subst h1
      congr 1
      apply Array.ext'
      apply List.ext_getElem?
      intro t
      have h2 := ht t
      simp only [Array.getElem?_toList]
      refine h2.trans ?_
      split
      · rename_i hany
        obtain ⟨o, ho, hot⟩ := List.any_eq_true.1 hany
        have hot' : o.dst = some t := by simpa using hot
        obtain ⟨i, hi, hio⟩ := List.mem_iff_getElem.1 ho
        have hlt := dsts_lt hds i o t (by simp [hi, hio]) hot'
        rw [if_pos hlt]
        have hsz2 := hst.size
        simp only at hsz2
        simp only [Act.eval, Array.getD_eq_getD_getElem?]
        rw [Array.getElem?_eq_getElem (show t < at_.size by rw [hsz2]; exact hlt)]
        rfl
      · rename_i hany
        refine (hst.far t ?_).symm
        simp only [farB, List.all_eq_true, bne_iff_ne, ne_eq]
        intro p hp hpt
        exact hany (List.any_eq_true.2 ⟨p, hp, by simp [hpt]⟩)
    rw [e] at hx
    exact hx
  intro fuel
  induction fuel with
  | zero =>
    intro listed a w hsz hc hst
    have hr : Region.ready .any l.toArray listed = [] := by
      apply List.eq_nil_iff_forall_not_mem.2
      intro j hj
      obtain ⟨h1, o, h2, _⟩ := mem_ready.1 hj
      have hlt : j < l.length := by simpa using (Array.getElem?_eq_some_iff.1 h2).1
      have hm : false ∈ listed.toList := by
        rw [Array.getD_eq_getD_getElem?, Array.getElem?_eq_getElem (by omega), Option.getD_some] at h1
        rw [← h1]
        simp
      have := List.count_pos_iff.2 hm
      omega
    exact ⟨hr, hfin listed a w hsz hr hst⟩
  | succ fuel ih =>
    intro listed a w hsz hc hst
    refine ⟨fun hr => hfin listed a w hsz hr hst, fun i hi => ?_⟩
    obtain ⟨h1, o, h2, h3⟩ := mem_ready.1 hi
    have hil : i < l.length := by simpa using (Array.getElem?_eq_some_iff.1 h2).1
    have h2' : l[i]? = some o := by simpa using h2
    have hfar' : ∀ t, farB l t = true → a.eval (.tmp t) = a0.eval (.tmp t) := fun t ht => eval_tmp (hst.far t ht)
    refine wpOp_mono ?_ (hstep i o h2' a w hst.c hfar' (fun j oj hj hw => by
      obtain ⟨e, he, hee⟩ : ∃ e ∈ o.after, (Region.binds .any e && e.on == j) = true := by
        obtain ⟨k, hk, hh⟩ := Array.any_eq_true.1 hw
        exact ⟨_, Array.getElem_mem hk, hh⟩
      simp only [Bool.and_eq_true, beq_iff_eq] at hee
      have hl := h3 e he hee.1
      rw [hee.2] at hl
      obtain ⟨v, hv, hR⟩ := hst.rel j oj hj hl
      exact ⟨v, fun d hd => by simp only [Act.eval, Array.getD_eq_getD_getElem?, hv d hd, Option.getD_some], hR⟩))
    rintro a' w' ⟨v, rfl, hC, hR, hk⟩
    have hget : listed[i]? = some false := by
      rw [Array.getD_eq_getD_getElem?, Array.getElem?_eq_getElem (by omega), Option.getD_some] at h1
      rw [Array.getElem?_eq_getElem (by omega), h1]
    refine ih (listed.setIfInBounds i true) (a.put o.dst v) w' (by simpa using hsz) ?_ ⟨hC, (put_size _ _ _).trans hst.size, (put_defers' _ _ _).trans hst.defers, fun t ht => ?_, fun j p hj hl => ?_⟩
    · have hlt : i < listed.toList.length := by simp; omega
      rw [Array.toList_setIfInBounds, List.count_set hlt]
      have hfi : listed.toList[i] = false := by
        have := hget
        rw [Array.getElem?_eq_getElem (by omega)] at this
        simpa using this
      have hm : false ∈ listed.toList := by rw [← hfi]; exact List.getElem_mem _
      have := List.count_pos_iff.2 hm
      rw [hfi]
      simp only [beq_self_eq_true, if_true, show (true == false) = false from rfl, Bool.false_eq_true, if_false]
      omega
    · rw [put_get, if_neg]
      · exact hst.far t ht
      · intro hot
        have := List.all_eq_true.1 ht o (List.mem_of_getElem? h2')
        simp [hot] at this
    · by_cases hij : i = j
      · subst hij
        obtain rfl : o = p := by rw [h2'] at hj; exact Option.some.inj hj
        refine ⟨v, fun d hd => ?_, hR⟩
        rw [put_get, if_pos hd, if_pos]
        rw [hst.size]
        exact dsts_lt hds i o d h2' hd
      · have hlj : listed.getD j false = true := by
          rw [Array.getD_eq_getD_getElem?, Array.getElem?_setIfInBounds_ne hij] at hl
          rw [Array.getD_eq_getD_getElem?]; exact hl
        obtain ⟨u, hu, hRu⟩ := hst.rel j p hj hlj
        refine ⟨u, fun d hd => ?_, hk j u hRu⟩
        rw [put_get, if_neg (dsts_ne hds j i p o d hj h2' (Ne.symm hij) hd)]
        exact hu d hd
/-- A region that draws its order: one step an operation. -/
theorem wp_region_rel {id : Nat} {l : List Oper} {Q : Exit → Act → World → Prop} {a : Act} {w : World} (C : World → Prop) (R : Nat → Value → World → Prop) (hm : P.follows .mixedOrders = true) (hac : acycB l 0 = true) (hds : dstsB a.tmps.size l = true) (hC : C (w.drewN 1))
    (hstep : AllSteps (RelStep P l C R Q a) l 0)
    (hend : ∀ vs w', C w' → AllSteps (fun i _ => R i (vs i) w') l 0 → Q .normal (putAll l 0 vs a) w') : (Code.region id l.toArray true).wp P Q a w := by
  refine wp_region_any hm ?_
  refine wpAny_rel hac hds (fun i o ho => by have := allSteps_spec hstep i o ho; rwa [Nat.zero_add] at this) (fun vs w' hc hv => hend vs w' hc ?_) _ _ _ _ (by simp) ?_ ⟨hC, rfl, rfl, fun _ _ => rfl, fun i o _ hl => ?_⟩
  · have : ∀ (m : List Oper) (k : Nat), (∀ i o, m[i]? = some o → l[k + i]? = some o) → AllSteps (fun i _ => R i (vs i) w') m k := by
      intro m
      induction m with
      | nil => intro _ _; trivial
      | cons o m ih =>
        intro k h
        exact ⟨hv k o (by have := h 0 o rfl; simpa using this), ih (k + 1) (fun i p hp => by have := h (i + 1) p (by simpa using hp); rw [← this]; congr 1; omega)⟩
    exact this l 0 (fun i o h => by simpa using h)
  · simp
  · exfalso
    rw [Array.getD_eq_getD_getElem?, Array.getElem?_replicate] at hl
    split at hl <;> simp at hl
theorem allSteps_nil {f : Nat → Oper → Prop} {k : Nat} : AllSteps f [] k := trivial
theorem allSteps_cons {f : Nat → Oper → Prop} {o : Oper} {l : List Oper} {k : Nat} (h : f k o) (hl : AllSteps f l (k + 1)) : AllSteps f (o :: l) k := ⟨h, hl⟩
/-- A call of a function with one argument; of a builtin append. -/
theorem exec_call1 {a : Act} {w : World} {o : Oper} {f : FuncId} {x : Operand} {t : TypeId} {v : Value} (ho : o.op = .call { callee := .value (.func f), args := #[x], argTypes := #[t] }) (hx : a.eval x = v) (hfn : ∀ args w, (callFunc f args).run P w = .ok (.enter f args) w) :
    (execOp a.eval o).run P w = .ok (.enter f #[v]) w := by
  have e1 : (#[x].map a.eval) = #[v] := by simp [hx]
  have e2 : a.eval (.func f) = .func (.func f) #[] #[] := rfl
  have := hfn #[v] w
  unfold execOp
  simp only [ho, resolve, e1, e2, Deferred.ofValue, invoke, Sem.run_bind, Sem.run_pure, Result.andThen_ok]
  simpa using this
theorem exec_app {a : Act} {w w' : World} {o : Oper} {s x : Operand} {t t2 : TypeId} {v1 v2 v' : Value} (ho : o.op = .call { callee := .builtin .append, args := #[s, x], argTypes := #[t, t2] }) (hs : a.eval s = v1) (hx : a.eval x = v2)
    (hr : (Builtin.append_ #[t, t2] o.type #[v1, v2]).run P w = .ok v' w') : (execOp a.eval o).run P w = .ok (.value v') w' := by
  unfold execOp
  simp only [ho, resolve, invoke, builtin, Sem.run_bind, Sem.run_pure, Result.andThen_ok, List.map_toArray, List.map_cons, List.map_nil, hs, hx, hr]
/-- An operation without a guard that yields a value. -/
theorem rel_value {l : List Oper} {C : World → Prop} {R : Nat → Value → World → Prop} {Q : Exit → Act → World → Prop} {i : Nat} {o : Oper} {a : Act} {w w' : World} {v : Value} (ho : l[i]? = some o) (hg : o.guard = none)
    (he : (execOp a.eval o).run P w = .ok (.value v) w') (hC : C w') (hR : R i v w') (hk : ∀ j u, R j u w → R j u w') :
    wpOp P l.toArray Q i (fun a' w' => ∃ v, a' = a.put o.dst v ∧ C w' ∧ R i v w' ∧ ∀ j u, R j u w → R j u w') a w := by
  unfold wpOp
  simp only [List.getElem?_toArray, ho, Region.wanted, hg, if_true]
  left
  unfold Oper.wp
  rw [he]
  exact ⟨v, rfl, hC, hR, hk⟩
/-- .. that yields none. -/
theorem rel_skip {l : List Oper} {C : World → Prop} {R : Nat → Value → World → Prop} {Q : Exit → Act → World → Prop} {i : Nat} {o : Oper} {a : Act} {w w' : World} (ho : l[i]? = some o) (hg : o.guard = none)
    (he : (execOp a.eval o).run P w = .ok .skip w') (hC : C w') (hR : R i undef w') (hk : ∀ j u, R j u w → R j u w') :
    wpOp P l.toArray Q i (fun a' w' => ∃ v, a' = a.put o.dst v ∧ C w' ∧ R i v w' ∧ ∀ j u, R j u w → R j u w') a w := by
  unfold wpOp
  simp only [List.getElem?_toArray, ho, Region.wanted, hg, if_true]
  left
  unfold Oper.wp
  rw [he]
  exact ⟨undef, rfl, hC, hR, hk⟩
/-- A dependency that yields a value. -/
theorem rel_dep {R : Nat → Value → World → Prop} {a : Act} {w : World} {j : Nat} {oj : Oper} {d : Tmp} (hd : oj.dst = some d) (h : ∃ v, (∀ d, oj.dst = some d → a.eval (.tmp d) = v) ∧ R j v w) : ∃ v, a.eval (.tmp d) = v ∧ R j v w := by
  obtain ⟨v, h1, h2⟩ := h
  exact ⟨v, h1 d hd, h2⟩
/-- .. that calls. -/
theorem rel_call {l : List Oper} {C : World → Prop} {R : Nat → Value → World → Prop} {Q : Exit → Act → World → Prop} {i : Nat} {o : Oper} {a : Act} {w : World} {f : FuncId} {args : Array Value} (ho : l[i]? = some o) (hg : o.guard = none)
    (he : (execOp a.eval o).run P w = .ok (.enter f args) w) (hc : Calls P f args w fun e w' => ∃ v, e = .returned v ∧ C w' ∧ R i v w' ∧ ∀ j u, R j u w → R j u w') :
    wpOp P l.toArray Q i (fun a' w' => ∃ v, a' = a.put o.dst v ∧ C w' ∧ R i v w' ∧ ∀ j u, R j u w → R j u w') a w := by
  unfold wpOp
  simp only [List.getElem?_toArray, ho, Region.wanted, hg, if_true]
  left
  unfold Oper.wp
  rw [he]
  refine hc.mono ?_
  rintro e w' ⟨v, rfl, h⟩
  exact ⟨v, rfl, h⟩
end
end Go.Proofs.YtnaagmjjnapklaaDoor
