/- Guarded operations of a drawn region. No condition. -/
import Derived.Test.YtnaagmjjnapklaaDoorRelV
namespace Go.Proofs.YtnaagmjjnapklaaDoor
open Go.RowKit

section
variable {P : Program}
theorem eval_bool {a : Act} {d : Tmp} {b : Bool} (h : a.eval (.tmp d) = .bool b) : a.tmps[d]? = some (.bool b) := by
  simp only [Act.eval, Array.getD_eq_getD_getElem?] at h
  cases hx : a.tmps[d]? with
  | none => rw [hx] at h; simp [undef] at h
  | some v => rw [hx] at h; simp only [Option.getD_some] at h; rw [h]
/-- A guard that is met. -/
theorem wanted_of {l : List Oper} {o oj : Oper} {a : Act} {j : Nat} {d : Tmp} {b : Bool} (hg : o.guard = some (j, b)) (hj : l[j]? = some oj) (hd : oj.dst = some d) (he : a.eval (.tmp d) = .bool b) : Region.wanted o (yielded l.toArray a.tmps) = true := by
  have h := eval_bool he
  simp [Region.wanted, hg, yielded, hj, hd, h]
theorem rel_value_w {l : List Oper} {C : World → Prop} {R : Nat → Value → World → Prop} {Q : Exit → Act → World → Prop} {i : Nat} {o : Oper} {a : Act} {w w' : World} {v : Value} (ho : l[i]? = some o) (hw : Region.wanted o (yielded l.toArray a.tmps) = true)
    (he : (execOp a.eval o).run P w = .ok (.value v) w') (hC : C w') (hR : R i v w') (hk : ∀ j u, R j u w → R j u w') :
    wpOp P l.toArray Q i (fun a' w' => ∃ v, a' = a.put o.dst v ∧ C w' ∧ R i v w' ∧ ∀ j u, R j u w → R j u w') a w := by
  unfold wpOp
  simp only [List.getElem?_toArray, ho, hw, if_true]
  left
  unfold Oper.wp
  rw [he]
  exact ⟨v, rfl, hC, hR, hk⟩
theorem rel_call_w {l : List Oper} {C : World → Prop} {R : Nat → Value → World → Prop} {Q : Exit → Act → World → Prop} {i : Nat} {o : Oper} {a : Act} {w : World} {f : FuncId} {args : Array Value} (ho : l[i]? = some o) (hw : Region.wanted o (yielded l.toArray a.tmps) = true)
    (he : (execOp a.eval o).run P w = .ok (.enter f args) w) (hc : Calls P f args w fun e w' => ∃ v, e = .returned v ∧ C w' ∧ R i v w' ∧ ∀ j u, R j u w → R j u w') :
    wpOp P l.toArray Q i (fun a' w' => ∃ v, a' = a.put o.dst v ∧ C w' ∧ R i v w' ∧ ∀ j u, R j u w → R j u w') a w := by
  unfold wpOp
  simp only [List.getElem?_toArray, ho, hw, if_true]
  left
  unfold Oper.wp
  rw [he]
  refine hc.mono ?_
  rintro e w' ⟨v, rfl, h⟩
  exact ⟨v, rfl, h⟩
theorem exec_call0 {a : Act} {w : World} {o : Oper} {f : FuncId} (ho : o.op = .call { callee := .value (.func f), args := #[], argTypes := #[] }) (hfn : ∀ args w, (callFunc f args).run P w = .ok (.enter f args) w) :
    (execOp a.eval o).run P w = .ok (.enter f #[]) w := by
  have e1 : ((#[] : Array Operand).map a.eval) = #[] := by simp
  have e2 : a.eval (.func f) = .func (.func f) #[] #[] := rfl
  have := hfn #[] w
  unfold execOp
  simp only [ho, resolve, e1, e2, Deferred.ofValue, invoke, Sem.run_bind, Sem.run_pure, Result.andThen_ok]
  simpa using this
end
end Go.Proofs.YtnaagmjjnapklaaDoor
