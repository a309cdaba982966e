/- The evaluator is sound: cells, new blocks. No condition. -/
import Derived.Test.YtenpbpgoglepfaaGreatDoorMm2
import Derived.Lib.ConvBytes
import Derived.Laws.MakeOwn
import Derived.Laws.BytesString
import Derived.Deep.AppendSrc
import Derived.Deep.Upon
import Derived.OrdersIn
import Derived.LoopNIn
import Derived.LaidEql
import Derived.RangeFuncSeq
import Derived.RangeFuncLeaves
import Derived.Orders
namespace Go.Proofs.YtenpbpgoglepfaaGreatDoor
open Go.RowKit
set_option linter.unusedVariables false

/-- A list of values. -/
inductive IsL : AV → Prop
  | nil : IsL .nil
  | cons (x : AV) {l : AV} (h : IsL l) : IsL (.cons x l)
theorem relL_isL {r : Rho} : ∀ {l : AV} {vs : List Value}, RelL r l vs → IsL l := by
  intro l
  induction l with
  | nil => exact fun _ => .nil
  | cons x l _ ih => exact fun h => by obtain ⟨v, vs, _, _, h2⟩ := h; exact .cons x (ih h2)
  | _ => exact fun h => by simp [RelL] at h
theorem lenL_cons (x l : AV) : lenL (.cons x l) = lenL l + 1 := rfl
theorem relL_len {r : Rho} : ∀ {l : AV} {vs : List Value}, RelL r l vs → lenL l = vs.length := by
  intro l
  induction l with
  | nil => exact fun h => by simp only [RelL] at h; subst h; rfl
  | cons x l _ ih => exact fun h => by obtain ⟨v, vs, rfl, _, h2⟩ := h; rw [lenL_cons, ih h2]; rfl
  | _ => exact fun h => by simp [RelL] at h
/-- What is read behind a row of writes. -/
theorem Cs.get_putL : ∀ (l : AV) (q : Nat) (c : Cs) (o : Nat), Cs.get (Cs.putL l q c) o = .u ∨ (∃ j, o = q + j ∧ j < lenL l ∧ Cs.get (Cs.putL l q c) o = nthL l j) ∨ ((o < q ∨ q + lenL l ≤ o) ∧ Cs.get (Cs.putL l q c) o = Cs.get c o) := by
  intro l
  induction l with
  | cons x l _ ih =>
    intro q c o
    have e : Cs.putL (.cons x l) q c = Cs.putL l (q + 1) (Cs.put c q x) := rfl
    rw [e, lenL_cons]
    rcases ih (q + 1) (Cs.put c q x) o with h | ⟨j, h1, h2, h3⟩ | ⟨h1, h2⟩
    · exact .inl h
    · exact .inr (.inl ⟨j + 1, by omega, by omega, h3⟩)
    · rcases Cs.get_put c q x o with h | ⟨h, h'⟩ | ⟨h, h'⟩
      · exact .inl (h2.trans h)
      · exact .inr (.inl ⟨0, by omega, by omega, h2.trans h'⟩)
      · exact .inr (.inr ⟨by omega, h2.trans h'⟩)
  | _ => exact fun q c o => .inr (.inr ⟨by simp only [lenL, AV.fold]; omega, rfl⟩)
theorem Cells.putL {r : Rho} {c : Cs} {o0 q : Nat} {cs cs' : Array Value} {l : AV} {vs : List Value} (h : Cells r c o0 cs) (hl : RelL r l vs)
    (hin : ∀ j, j < vs.length → cs'[o0 + q + j]? = vs[j]?) (hout : ∀ o, (o < q ∨ q + vs.length ≤ o) → cs'[o0 + o]? = cs[o0 + o]?) : Cells r (Cs.putL l q c) o0 cs' := fun o ho => by
  rcases Cs.get_putL l q c o with e | ⟨j, h1, h2, h3⟩ | ⟨h1, h2⟩
  · exact absurd e ho
  · rw [h3] at ho ⊢
    obtain ⟨v, hv, hr⟩ := nthL_rel j hl ho
    rw [relL_len hl] at h2
    exact ⟨v, by rw [h1, ← Nat.add_assoc, hin j h2, hv], hr⟩
  · rw [h2] at ho ⊢
    obtain ⟨v, hv, hr⟩ := h o ho
    rw [relL_len hl] at h1
    exact ⟨v, by rw [hout o h1, hv], hr⟩
theorem Cells.mk {r : Rho} {n o0 : Nat} {cs : Array Value} : Cells r (Cs.mk n) o0 cs := fun o ho => absurd (Cs.get_mk n o) ho
theorem Cells.new {r : Rho} {n : Nat} {cs : Array Value} {l : AV} (hl : RelL r l cs.toList) : Cells r (Cs.putL l 0 (Cs.mk n)) 0 cs :=
  Cells.putL (cs := cs) Cells.mk hl (fun j hj => by rw [Nat.zero_add, Array.getElem?_toList]) fun _ _ => rfl
theorem isOne_of {v : AV} {β : Type} {x y : β} (h : x ≠ y) (e : AV.onOne v x y = y) : AV.isOne v = true := by cases v <;> first | rfl | exact absurd e h
theorem allOne_cons {x l : AV} (h : allOne (.cons x l) = true) : AV.isOne x = true ∧ allOne l = true := by
  have e : allOne (.cons x l) = AV.onOne x false (allOne l) := rfl
  rw [e] at h
  cases x <;> first | exact ⟨rfl, h⟩ | cases h
theorem one_rel {r : Rho} {x : AV} {v : Value} (hx : AV.isOne x = true) (h : Rel r x v) : v.oneCell' = true ∧ v.cells = #[v] := by
  cases x <;> simp only [AV.isOne, Bool.false_eq_true] at hx
  case i => simp only [Rel] at h; subst h; exact ⟨rfl, rfl⟩
  case b => simp only [Rel] at h; subst h; exact ⟨rfl, rfl⟩
  case p => simp only [Rel] at h; rw [h.2]; exact ⟨rfl, rfl⟩
  case np => simp only [Rel] at h; subst h; exact ⟨rfl, rfl⟩
  case s => obtain ⟨_, _, _, e, _⟩ := h; subst e; exact ⟨rfl, rfl⟩
  case ns => simp only [Rel] at h; subst h; exact ⟨rfl, rfl⟩
  case str => obtain ⟨_, e, _⟩ := h; subst e; exact ⟨rfl, rfl⟩
  case m => simp only [Rel] at h; rw [h.2]; exact ⟨rfl, rfl⟩
  case nm => simp only [Rel] at h; subst h; exact ⟨rfl, rfl⟩
  case f => obtain ⟨_, _, e, _⟩ := h; subst e; exact ⟨rfl, rfl⟩
  case nf => simp only [Rel] at h; subst h; exact ⟨rfl, rfl⟩
  case ifc => obtain ⟨_, e, _⟩ := h; subst e; exact ⟨rfl, rfl⟩
  case ni => simp only [Rel] at h; subst h; exact ⟨rfl, rfl⟩
  case q => simp only [Rel] at h; subst h; exact ⟨rfl, rfl⟩
theorem ones_rel {r : Rho} : ∀ {l : AV} {vs : List Value}, allOne l = true → RelL r l vs → ∀ v ∈ vs, v.oneCell' = true := by
  intro l
  induction l with
  | nil => exact fun _ h => by simp only [RelL] at h; subst h; simp
  | cons x l _ ih =>
    intro vs ha h
    obtain ⟨v, vs, rfl, h1, h2⟩ := h
    obtain ⟨a1, a2⟩ := allOne_cons ha
    intro u hu
    rcases List.mem_cons.1 hu with rfl | hu
    · exact (one_rel a1 h1).1
    · exact ih a2 h2 u hu
  | _ => exact fun _ h => by simp [RelL] at h
/-- A value's cells. -/
theorem flat_rel {r : Rho} {x : AV} {v : Value} (h : allOne (AV.flat x) = true) (hr : Rel r x v) : RelL r (AV.flat x) v.cells.toList := by
  by_cases hx : AV.isOne x = true
  · have e : AV.flat x = .cons x .nil := by cases x <;> first | rfl | cases hx
    rw [e, (one_rel hx hr).2]
    exact ⟨v, [], rfl, hr, rfl⟩
  · cases x
    case agg l =>
      obtain ⟨a, e, h1⟩ := hr
      subst e
      exact h1
    case u => cases h
    case nil => cases h
    case cons => cases h
    case tup => cases h
    case y => cases h
    all_goals exact absurd rfl hx

section
variable {P : Program} {NG : Env} {B0 N : Nat} {C : CallE → Prop} {o : Oper} {E : Fr → St → Prop}
/-- A state with a new row. -/
noncomputable def St.new (s : St) (n : Nat) (z : AV) : St := .mk (Hp.put s.h s.n (.rw (Cs.putL z 0 (Cs.mk n)))) (Nat.succ s.n)
theorem Ct.newB {n : Nat} {z : AV} {s : St} {f : Nat → St → K → R} (h : Ct (f s.n (s.new n z)) E) : Ct (fun k => Go.Proofs.YtenpbpgoglepfaaGreatDoor.newB n z s fun b s => f b s k) E :=
  Ct.withSt (s := s) (f := fun h b k => Go.Proofs.YtenpbpgoglepfaaGreatDoor.strictN b fun b => ifB (Nat.blt b 65536) (f b (.mk (Hp.put h b (.rw (Cs.putL z 0 (Cs.mk n)))) (Nat.succ b)) k) .bad) (Ct.strictN (Ct.must fun _ => h))
theorem new_ok {r : Rho} {s : St} {w : World} (h : Sim B0 r s w) {z : AV} {cs : Array Value} (t : TypeId) (n : Nat) (hz : RelL r z cs.toList) :
    Sim B0 (r.push w.heap.size 0 cs.size) (s.new n z) (w.alloc (.cells cs t)) ∧ Stp r s w (r.push w.heap.size 0 cs.size) (s.new n z) (w.alloc (.cells cs t)) := by
  have hle := r.le_push h.lt w.heap.size 0 cs.size
  obtain ⟨p1, p2, p3⟩ := r.push_at w.heap.size 0 cs.size
  refine h.new (.cells cs t) (.rw (Cs.putL z 0 (Cs.mk n))) cs.size ⟨⟨r.push_n _ _ _, cs, t, (0, 0), ?_, p3.symm, ?_, .inl rfl⟩, ?_⟩
  · rw [p1]; show (w.heap.push _)[w.heap.size]? = _; simp
  · rw [p2]; exact Cells.new (hz.le hle)
  · rw [p1]; exact h.low
theorem new_p {r : Rho} {s : St} {w : World} (h : Sim B0 r s w) (t : Nat) : Rel (r.push w.heap.size 0 t) (.p s.n 0) (.pointer (some ⟨w.heap.size, 0, none⟩)) := by
  obtain ⟨p1, p2, p3⟩ := r.push_at w.heap.size 0 t
  rw [h.n]
  exact ⟨r.push_n _ _ _, by rw [p1, p2]⟩
/-- A type's zero cells. -/
noncomputable def zB (P : Program) (t : Nat) (z : AV) : Bool := match P.info? t with | some i => (match i.zero with | some v => cLB v.cells.toList z | none => false) | none => false
theorem zB_eq {t : Nat} {z : AV} (h : zB P t z = true) : ∃ v, (∀ w, (zeroValue t).run P w = .ok v w) ∧ ∀ r, RelL r z v.cells.toList := by
  unfold zB at h
  split at h
  · rename_i i hi
    split at h
    · rename_i v hv
      refine ⟨v, fun w => ?_, fun r => cLB_rel r h⟩
      simp only [zeroValue, Sem.run_bind, run_info hi, Result.andThen_ok, hv, Sem.run_pure]
    · cases h
  · cases h
noncomputable def okAlc (P : Program) (NG N : Nat) (o : Oper) (n : Nat) (z : AV) (d : D) : Bool := dB o.dst d && (match o.op with | .alloc t => zB P t z | _ => false)
theorem snd_alc {n : Nat} {z : AV} {d : D} (h : okAlc P NG N o n z d = true) : Snd P NG B0 N C o (.alc n z d) := fun c _ fr s => by
  simp only [okAlc, Bool.and_eq_true] at h
  obtain ⟨hd, h⟩ := h
  show Ct (hAlc n z d c fr s) _
  unfold hAlc
  refine Ct.newB (Ct.fin (do_val hd fun r w a hb hs hf => ?_))
  split at h
  · rename_i t e'
    obtain ⟨v, hv, hz⟩ := zB_eq h
    obtain ⟨s1, s2⟩ := new_ok hs t n (hz r)
    refine ⟨_, _, _, ?_, new_p hs v.cells.size, s1, s2⟩
    rw [ex_alloc e']
    refine run_v ?_
    simp only [Instr.alloc, Sem.run_bind, hv, Result.andThen_ok, newVar, newRow, run_newObj_alloc, Sem.run_pure]
  · cases h
noncomputable def okBox (P : Program) (NG N : Nat) (o : Oper) (n : Nat) (x : X) (d : D) : Bool := dB o.dst d && (match o.op with | .box t p => xB NG N p x | _ => false)
theorem snd_box {n : Nat} {x : X} {d : D} (h : okBox P NG N o n x d = true) : Snd P NG B0 N C o (.box n x d) := fun c _ fr s => by
  simp only [okBox, Bool.and_eq_true] at h
  obtain ⟨hd, h⟩ := h
  show Ct (hBox n x d c fr s) _
  unfold hBox
  refine Ct.must fun ha => Ct.newB (Ct.fin (do_val hd fun r w a hb hs hf => ?_))
  split at h
  · rename_i t p e'
    have h1 := flat_rel ha (xB_rel h hb hf)
    obtain ⟨s1, s2⟩ := new_ok hs t n h1
    refine ⟨_, _, _, ?_, new_p hs (a.eval p).cells.size, s1, s2⟩
    rw [ex_box e']
    refine run_v ?_
    simp only [Instr.box, newVar, newRow, Sem.run_bind, run_newObj_alloc, Result.andThen_ok, Sem.run_pure]
  · cases h
end
end Go.Proofs.YtenpbpgoglepfaaGreatDoor
namespace Go.Proofs.YtenpbpgoglepfaaGreatDoor
open Go.RowKit
set_option linter.unusedVariables false

section
variable {P : Program} {NG : Env} {B0 N : Nat} {C : CallE → Prop} {o : Oper} {E : Fr → St → Prop}
theorem cell_at {w : World} {b x : Nat} {cs : Array Value} {t : TypeId} {f : Nat × Nat} (h : w.heap[b]? = some (.cells cs t f)) : w.cell? ⟨b, x, none⟩ = cs[x]? := by
  simp [World.cell?, h]
theorem Cs.getL_succ (c : Cs) (n o : Nat) : Cs.getL c (n + 1) o = .cons (Cs.get c o) (Cs.getL c n (o + 1)) := rfl
theorem getL_rel {r : Rho} {c : Cs} {o0 : Nat} {cs : Array Value} (h : Cells r c o0 cs) : ∀ (n o : Nat), allOne (Cs.getL c n o) = true → ∃ vs : List Value, RelL r (Cs.getL c n o) vs ∧ vs.length = n ∧ ∀ j, j < n → ∃ v, vs[j]? = some v ∧ cs[o0 + o + j]? = some v
  | 0, o, _ => ⟨[], rfl, rfl, fun j hj => absurd hj (Nat.not_lt_zero j)⟩
  | n + 1, o, ha => by
    rw [Cs.getL_succ] at ha ⊢
    obtain ⟨a1, a2⟩ := allOne_cons ha
    obtain ⟨vs, h1, h2, h3⟩ := getL_rel h n (o + 1) a2
    obtain ⟨v, hv, hr⟩ := h o (fun e => by rw [e] at a1; cases a1)
    refine ⟨v :: vs, ⟨v, vs, rfl, hr, h1⟩, by rw [List.length_cons, h2], fun j hj => ?_⟩
    cases j with
    | zero => exact ⟨v, rfl, hv⟩
    | succ j =>
      obtain ⟨u, u1, u2⟩ := h3 j (by omega)
      exact ⟨u, u1, by rw [← u2]; congr 1; omega⟩
theorem row_of {r : Rho} {s : St} {w : World} {b : Nat} {c : Cs} (hs : Sim B0 r s w) (h : Hp.get s.h b = .ro c ∨ Hp.get s.h b = .rw c) : RowOk r w b c := by
  have := hs.ok b
  rcases h with h | h
  · rw [h] at this; exact this.1
  · rw [h] at this; exact this.1
noncomputable def okLd1 (P : Program) (NG N : Nat) (o : Oper) (x : X) (d : D) : Bool := dB o.dst d && (match o.op with | .load t p => xB NG N p x && aggB P t false | _ => false)
theorem snd_ld1 {x : X} {d : D} (h : okLd1 P NG N o x d = true) : Snd P NG B0 N C o (.ld1 x d) := fun c _ fr s => by
  simp only [okLd1, Bool.and_eq_true] at h
  obtain ⟨hd, h⟩ := h
  show Ct (hLd1 x d c fr s) _
  unfold hLd1
  refine Ct.onP fun b q e => Ct.onR fun cs hcs => Ct.isU fun hu => Ct.fin (do_pure hd fun r w a hb hs hf => ?_)
  split at h
  · rename_i t p e'
    simp only [Bool.and_eq_true] at h
    have h1 := xB_rel h.1 hb hf
    rw [e] at h1
    simp only [Rel] at h1
    obtain ⟨_, rcs, t', f', hh, hz, hc, hfz⟩ := row_of hs hcs
    obtain ⟨v, hv, hr⟩ := hc q hu
    refine ⟨v, ?_, hr⟩
    rw [ex_load e', h1.2]
    refine run_v ?_
    simp only [Instr.loadAt, Instr.sureAddr, Sem.run_bind, Sem.run_pure, Result.andThen_ok, loadVar, aggB_eq h.2, Bool.false_eq_true, if_false, run_load, cell_at hh, hv]
  · cases h
noncomputable def okLdn (P : Program) (NG N : Nat) (o : Oper) (n : Nat) (x : X) (d : D) : Bool := dB o.dst d && (match o.op with | .load t p => xB NG N p x && aggB P t true && szB P t n | _ => false)
theorem snd_ldn {n : Nat} {x : X} {d : D} (h : okLdn P NG N o n x d = true) : Snd P NG B0 N C o (.ldn n x d) := fun c _ fr s => by
  simp only [okLdn, Bool.and_eq_true] at h
  obtain ⟨hd, h⟩ := h
  show Ct (hLdn n x d c fr s) _
  unfold hLdn
  refine Ct.onP fun b q e => Ct.onR fun cs hcs => Ct.must fun ha => Ct.fin (do_pure hd fun r w a hb hs hf => ?_)
  split at h
  · rename_i t p e'
    simp only [Bool.and_eq_true] at h
    have h1 := xB_rel h.1.1 hb hf
    rw [e] at h1
    simp only [Rel] at h1
    obtain ⟨_, rcs, t', f', hh, hz, hc, hfz⟩ := row_of hs hcs
    obtain ⟨vs, v1, v2, v3⟩ := getL_rel hc n q ha
    refine ⟨.agg vs.toArray, ?_, ⟨_, rfl, v1⟩⟩
    rw [ex_load e', h1.2]
    refine run_v ?_
    have hl : (loadCells ⟨r.blk b, r.off b + q, none⟩ n).run P w = .ok vs.toArray w := by
      rw [← v2]
      refine run_loadCells_list w _ vs fun j v hj => ?_
      rw [Addr.add_mid, cell_at hh]
      obtain ⟨u, u1, u2⟩ := v3 j (by rw [← v2]; exact (List.getElem?_eq_some_iff.1 hj).1)
      rw [u2, ← u1, hj]
    simp only [Instr.loadAt, Instr.sureAddr, Sem.run_bind, Sem.run_pure, Result.andThen_ok, loadVar, aggB_eq h.1.2, if_true, run_size (szB_eq h.2), hl]
  · cases h
/-- Behind a row of stores. -/
theorem setCells_at (b : Nat) (t : TypeId) (f : Nat × Nat) : ∀ (vs : List Value) (q : Nat) (w : World) (cs : Array Value), w.heap[b]? = some (.cells cs t f) → q + vs.length ≤ cs.size →
    ∃ cs' : Array Value, (w.setCells b q vs).heap[b]? = some (.cells cs' t f) ∧ cs'.size = cs.size ∧ (∀ j, j < vs.length → cs'[q + j]? = vs[j]?) ∧ (∀ i, (i < q ∨ q + vs.length ≤ i) → cs'[i]? = cs[i]?) ∧
      (∀ x, x ≠ b → (w.setCells b q vs).heap[x]? = w.heap[x]?) ∧ (w.setCells b q vs).heap.size = w.heap.size ∧ (w.setCells b q vs).os = w.os ∧ (w.setCells b q vs).tape = w.tape ∧ (w.setCells b q vs).output = w.output
  | [], q, w, cs, h, _ => ⟨cs, h, rfl, fun j hj => absurd hj (Nat.not_lt_zero j), fun _ _ => rfl, fun _ _ => rfl, rfl, rfl, rfl, rfl⟩
  | v :: vs, q, w, cs, h, hq => by
    simp only [List.length_cons] at hq
    have h0 : (w.setCell ⟨b, q, none⟩ v).heap[b]? = some (.cells (cs.setIfInBounds q v) t f) := by
      simp [World.setCell, Array.getElem?_modify, h]
    obtain ⟨cs', k1, k2, k3, k4, k5, k6, k7, k8, k9⟩ := setCells_at b t f vs (q + 1) (w.setCell ⟨b, q, none⟩ v) _ h0 (by simp; omega)
    refine ⟨cs', k1, by rw [k2]; simp, fun j hj => ?_, fun i hi => ?_, fun x hx => ?_, ?_, k7, k8, k9⟩
    · cases j with
      | zero =>
        rw [Nat.add_zero, k4 q (by omega)]
        simp only [Array.getElem?_setIfInBounds, if_true, List.getElem?_cons_zero]
        rw [if_pos (by omega)]
      | succ j =>
        rw [List.getElem?_cons_succ, ← k3 j (by simp only [List.length_cons] at hj; omega)]
        congr 1
        omega
    · simp only [List.length_cons] at hi
      rw [k4 i (by omega), Array.getElem?_setIfInBounds]
      rw [if_neg (by omega)]
    · show ((w.setCell ⟨b, q, none⟩ v).setCells b (q + 1) vs).heap[x]? = _
      rw [k5 x hx]
      simp [World.setCell, Array.getElem?_modify, Ne.symm hx]
    · show ((w.setCell ⟨b, q, none⟩ v).setCells b (q + 1) vs).heap.size = _
      rw [k6]
      simp [World.setCell]
/-- Cells laid over a row. -/
theorem put_ok {r : Rho} {s : St} {w : World} (hs : Sim B0 r s w) {b q : Nat} {c : Cs} (hb : Hp.get s.h b = .rw c) {l : AV} {vs : List Value} (hl : RelL r l vs) (hroom : ∀ j, j < vs.length → ∃ cs t f v, w.heap[r.blk b]? = some (.cells cs t f) ∧ cs[r.off b + q + j]? = some v) :
    Sim B0 r (.mk (Hp.put s.h b (.rw (Cs.putL l q c))) s.n) (w.setCells (r.blk b) (r.off b + q) vs) ∧ Stp r s w r (.mk (Hp.put s.h b (.rw (Cs.putL l q c))) s.n) (w.setCells (r.blk b) (r.off b + q) vs) := by
  obtain ⟨hbn, cs, t, f, hh, hz, hc, hfz⟩ := row_of hs (.inr hb)
  have hlow : B0 ≤ r.blk b := hs.live_ge (b := b) (by rw [hb]; exact trivial)
  by_cases hv : vs.length = 0
  · have : vs = [] := List.length_eq_zero_iff.1 hv
    subst this
    have e : Cs.putL l q c = c := by
      cases l <;> first | rfl | (simp [RelL] at hl)
    rw [e]
    exact hs.wrote b (.rw c) (by rw [hb]; exact trivial) ⟨⟨hbn, cs, t, f, hh, hz, hc, hfz⟩, hlow⟩ rfl rfl rfl (Nat.le_refl _) (fun _ _ _ => rfl)
  · have hsz : r.off b + q + vs.length ≤ cs.size := by
      obtain ⟨cs1, t1, f1, v, e1, e2⟩ := hroom (vs.length - 1) (by omega)
      rw [hh] at e1
      cases e1
      have := (Array.getElem?_eq_some_iff.1 e2).1
      omega
    obtain ⟨cs', k1, k2, k3, k4, k5, k6, k7, k8, k9⟩ := setCells_at (r.blk b) t f vs (r.off b + q) w cs hh hsz
    refine hs.wrote b _ (by rw [hb]; exact trivial) ⟨⟨hbn, cs', t, f, k1, by rw [k2, hz], ?_, by rw [k2]; exact hfz⟩, hlow⟩ k7 k8 k9 (by rw [k6]; exact Nat.le_refl _) (fun x _ hx => k5 x hx)
    exact hc.putL hl k3 (fun i hi => k4 _ (by omega))
/-- The stores of some cells. -/
theorem run_put {r : Rho} {w : World} {b q : Nat} {vs : List Value} {cs : Array Value} {t : TypeId} {f : Nat × Nat} (hh : w.heap[r.blk b]? = some (.cells cs t f)) (hfz : f.2 = 0 ∨ cs.size ≤ f.1) (hroom : ∀ j, j < vs.length → ∃ v, cs[r.off b + q + j]? = some v) (h1 : ∀ v ∈ vs, v.oneCell' = true) :
    (storeCells ⟨r.blk b, r.off b + q, none⟩ vs).run P w = .ok () (w.setCells (r.blk b) (r.off b + q) vs) := by
  have := run_storeCells_cells (P := P) (r.blk b) (r.off b + q) vs 0 w (fun j hj => by obtain ⟨v, hv⟩ := hroom j hj; rw [cell_at hh, Nat.add_zero, hv]; rfl) (fun j hj => by
      obtain ⟨v, hv⟩ := hroom j hj
      have := (Array.getElem?_eq_some_iff.1 hv).1
      obtain ⟨lo, hi⟩ := f
      simp only [World.frozen?, hh, Nat.add_zero, Bool.and_eq_false_iff, decide_eq_false_iff_not]
      rcases hfz with h | h
      · right; simp only at h; omega
      · left; simp only at h; omega) h1
  simpa using this
noncomputable def okSto (P : Program) (NG N : Nat) (o : Oper) (n : Nat) (x y : X) : Bool := o.dst.isNone && (match o.op with | .store t p q => xB NG N p x && xB NG N q y && szB P t n | _ => false)
theorem snd_sto {n : Nat} {x y : X} (h : okSto P NG N o n x y = true) : Snd P NG B0 N C o (.sto n x y) := fun c _ fr s => by
  simp only [okSto, Bool.and_eq_true, Option.isNone_iff_eq_none] at h
  obtain ⟨hd, h⟩ := h
  show Ct (hSto n x y c fr s) _
  unfold hSto
  refine Ct.onP fun b q e => Ct.onW fun cs hcs => Ct.must fun ha => Ct.must fun hn => Ct.must fun hg => Ct.fin (do_skip hd fun r w a hb hs hf => ?_)
  split at h
  · rename_i t p p' e'
    simp only [Bool.and_eq_true] at h
    have h1 := xB_rel h.1.1 hb hf
    have h2 := flat_rel ha (xB_rel h.1.2 hb hf)
    rw [e] at h1
    simp only [Rel] at h1
    have hlen := relL_len h2
    obtain rfl := Nat.eq_of_beq_eq_true hn
    obtain ⟨_, rcs, t', f', hh, hz, hc, hfz⟩ := row_of hs (.inr hcs)
    obtain ⟨vs, v1, v2, v3⟩ := getL_rel hc _ q hg
    have hroom : ∀ j, j < (a.eval p').cells.toList.length → ∃ cs t f v, w.heap[r.blk b]? = some (.cells cs t f) ∧ cs[r.off b + q + j]? = some v := fun j hj => by
      obtain ⟨u, _, u2⟩ := v3 j (by rw [hlen]; exact hj)
      exact ⟨_, _, _, u, hh, u2⟩
    obtain ⟨s1, s2⟩ := put_ok hs hcs h2 hroom
    refine ⟨_, r, ?_, s1, s2⟩
    rw [ex_store e', h1.2]
    refine run_u ?_
    have hcz : (a.eval p').cells.size = lenL (AV.flat (y.ev fr)) := by rw [hlen, Array.length_toList]
    simp only [Instr.storeAt, Instr.sureAddr, Sem.run_bind, Sem.run_pure, Result.andThen_ok, storeVar, run_size (szB_eq h.2), hcz, ne_eq, not_true_eq_false, if_false]
    exact run_put hh hfz (fun j hj => by obtain ⟨u, _, u2⟩ := v3 j (by rw [hlen]; exact hj); exact ⟨u, u2⟩) (ones_rel ha h2)
  · cases h
end
end Go.Proofs.YtenpbpgoglepfaaGreatDoor
namespace Go.Proofs.YtenpbpgoglepfaaGreatDoor
open Go.RowKit
set_option linter.unusedVariables false

/-- Parts laid over cells. -/
inductive Laid (fr : Fr) : List (Nat × Nat × X) → Cs → Cs → Prop
  | nil (c : Cs) : Laid fr [] c c
  | cons {o n : Nat} {x : X} {ps : List (Nat × Nat × X)} {c c' : Cs} (h1 : allOne (AV.flat (X.ev x fr)) = true) (h2 : lenL (AV.flat (X.ev x fr)) = n) (h : Laid fr ps (Cs.putL (AV.flat (X.ev x fr)) o c) c') : Laid fr ((o, n, x) :: ps) c c'
section
variable {P : Program} {NG : Env} {B0 N : Nat} {C : CallE → Prop} {o : Oper} {E : Fr → St → Prop}
theorem Ct.layP {fr : Fr} {f : Cs → K → R} : ∀ {ps : List (Nat × Nat × X)} {c : Cs}, (∀ c', Laid fr ps c c' → Ct (f c') E) → Ct (fun k => Go.Proofs.YtenpbpgoglepfaaGreatDoor.layP ps fr c fun c => f c k) E
  | [], c, h => h c (.nil c)
  | (o, n, x) :: ps, c, h => Ct.must (b := allOne (AV.flat (X.ev x fr))) fun h1 => Ct.must (b := Nat.beq (lenL (AV.flat (X.ev x fr))) n) fun h2 => Ct.layP fun c' hc => h c' (.cons h1 (Nat.eq_of_beq_eq_true h2) hc)
theorem foldSet (off : Nat) : ∀ (l : List Value) (k : Nat) (A : Array Value), ∃ A' : Array Value, (l.zipIdx k).foldl (fun (cs : Array Value) p => cs.setIfInBounds (off + p.2) p.1) A = A' ∧ A'.size = A.size ∧
    (∀ j, j < l.length → off + k + j < A.size → A'[off + k + j]? = l[j]?) ∧ ∀ i, (i < off + k ∨ off + k + l.length ≤ i) → A'[i]? = A[i]?
  | [], k, A => ⟨A, rfl, rfl, fun j hj => absurd hj (Nat.not_lt_zero j), fun _ _ => rfl⟩
  | v :: l, k, A => by
    obtain ⟨A', h1, h2, h3, h4⟩ := foldSet off l (k + 1) (A.setIfInBounds (off + k) v)
    refine ⟨A', h1, by rw [h2, Array.size_setIfInBounds], fun j hj hA => ?_, fun i hi => ?_⟩
    · cases j with
      | zero =>
        rw [Nat.add_zero, h4 _ (by omega), Array.getElem?_setIfInBounds, if_pos rfl, if_pos (by omega)]
        rfl
      | succ j =>
        rw [List.getElem?_cons_succ, ← h3 j (by simp only [List.length_cons] at hj; omega) (by rw [Array.size_setIfInBounds]; omega)]
        congr 1
        omega
    · simp only [List.length_cons] at hi
      rw [h4 i (by omega), Array.getElem?_setIfInBounds, if_neg (by omega)]
/-- The parts, as the machine has them. -/
inductive Parts (place : Nat → Option (Nat × Nat)) (tot : Nat) (r : Rho) (fr : Fr) : List (Nat × Value) → List (Nat × Nat × X) → Prop
  | nil : Parts place tot r fr [] []
  | cons {i o n : Nat} {v : Value} {x : X} {l : List (Nat × Value)} {ps : List (Nat × Nat × X)} (h1 : place i = some (o, n)) (h2 : Rel r (X.ev x fr) v) (h3 : o + n ≤ tot) (h : Parts place tot r fr l ps) : Parts place tot r fr ((i, v) :: l) ((o, n, x) :: ps)
theorem fill_ok {place : Nat → Option (Nat × Nat)} {tot : Nat} {r : Rho} {fr : Fr} : ∀ {l : List (Nat × Value)} {ps : List (Nat × Nat × X)} {c c' : Cs} {A : Array Value}, Parts place tot r fr l ps → Laid fr ps c c' → A.size = tot → Cells r c 0 A →
    ∃ A', Instr.fill place A l = some A' ∧ A'.size = tot ∧ Cells r c' 0 A' := by
  intro l
  induction l with
  | nil =>
    intro ps c c' A hp hl hA hc
    cases hp
    cases hl
    exact ⟨A, rfl, hA, hc⟩
  | cons p l ih =>
    intro ps c c' A hp hl hA hc
    cases hp with
    | @cons i o n v x _ ps h1 h2 h3 hp =>
      cases hl with
      | cons k1 k2 hl =>
        have hr := flat_rel k1 h2
        have hn : v.cells.size = n := by rw [← k2, relL_len hr, Array.length_toList]
        obtain ⟨A1, e1, e2, e3, e4⟩ := foldSet o v.cells.toList 0 A
        have hc1 : Cells r (Cs.putL (AV.flat (X.ev x fr)) o c) 0 A1 := hc.putL hr (fun j hj => by
            have hj' : j < n := by rw [← hn, ← Array.length_toList]; exact hj
            rw [Nat.zero_add, ← e3 j hj (by omega)]; rfl) (fun i hi => by
            rw [Array.length_toList, hn] at hi
            rw [Nat.zero_add]
            exact e4 i (by rw [Array.length_toList, hn]; omega))
        obtain ⟨A', f1, f2, f3⟩ := ih hp hl (e2.trans hA) hc1
        refine ⟨A', ?_, f2, f3⟩
        rw [Instr.fill, h1]
        have hcond : (decide (v.cells.size ≠ n) || decide (o + v.cells.size > A.size)) = false := by
          rw [hn, hA, Bool.or_eq_false_iff]
          exact ⟨by simp, by simpa using h3⟩
        simp only [hcond, Bool.false_eq_true, if_false]
        have : v.cells.zipIdx.foldl (fun cs (c, j) => cs.setIfInBounds (o + j) c) A = A1 := by
          rw [← e1, ← Array.foldl_toList, Array.toList_zipIdx]
        rw [this]
        exact f1
noncomputable def placeB (place : Nat → Option (Nat × Nat)) (tot NG N : Nat) : List (Nat × Operand) → List (Nat × Nat × X) → Bool
  | [], [] => true
  | (i, p) :: l, (o, n, x) :: ps => (match place i with | some (o', n') => Nat.beq o' o && Nat.beq n' n | none => false) && xB NG N p x && Nat.ble (o + n) tot && placeB place tot NG N l ps
  | _, _ => false
theorem placeB_ok {place : Nat → Option (Nat × Nat)} {tot : Nat} {r : Rho} {fr : Fr} {a : Act} (hb : Base NG r) (hf : FrR N r fr a) : ∀ {l : List (Nat × Operand)} {ps : List (Nat × Nat × X)}, placeB place tot NG N l ps = true → Parts place tot r fr (l.map fun p => (p.1, a.eval p.2)) ps
  | [], [], _ => .nil
  | (i, p) :: l, (o, n, x) :: ps, h => by
    simp only [placeB, Bool.and_eq_true] at h
    obtain ⟨⟨⟨h1, h2⟩, h3⟩, h4⟩ := h
    split at h1
    · rename_i o' n' e
      simp only [Bool.and_eq_true] at h1
      obtain rfl := Nat.eq_of_beq_eq_true h1.1
      obtain rfl := Nat.eq_of_beq_eq_true h1.2
      exact .cons e (xB_rel h2 hb hf) (Nat.le_of_ble_eq_true h3) (placeB_ok hb hf h4)
    · cases h1
  | [], _ :: _, h => by cases h
  | _ :: _, [], h => by cases h
theorem getL_all {r : Rho} {c : Cs} {A : Array Value} (h : Cells r c 0 A) : ∀ (n o : Nat), o + n = A.size → RelL r (Cs.getL c n o) (A.toList.drop o)
  | 0, o, e => by rw [List.drop_eq_nil_of_le (by rw [Array.length_toList]; omega)]; exact (show RelL r .nil [] from rfl)
  | n + 1, o, e => by
    rw [Cs.getL_succ, List.drop_eq_getElem_cons (by rw [Array.length_toList]; omega)]
    refine ⟨_, _, rfl, ?_, getL_all h n (o + 1) (by omega)⟩
    by_cases hu : Cs.get c o = .u
    · rw [hu]; trivial
    · obtain ⟨v, hv, hr⟩ := h o hu
      rw [Nat.zero_add] at hv
      have : A.toList[o]'(by rw [Array.length_toList]; omega) = v := by
        have := (Array.getElem?_eq_some_iff.1 hv).2
        rw [← this]
        rfl
      rw [this]
      exact hr
/-- The places of a struct's fields. -/
noncomputable def placeS (P : Program) (fs : Array Field) : Nat → Option (Nat × Nat) := fun i => match fs[i]? with | some f => (match P.info? f.type with | some q => some (f.offset, q.size) | none => none) | none => none
theorem run_places (fs : Array Field) (hf : fs.all (fun f => (P.info? f.type).isSome) = true) (w : World) : ∃ ps : Array (Nat × Nat), (fs.mapM fun f => do pure (f.offset, ← sizeOf f.type) : Sem (Array (Nat × Nat))).run P w = .ok ps w ∧ ∀ i, ps[i]? = placeS P fs i := by
  have key : ∀ l : List Field, (∀ f ∈ l, (P.info? f.type).isSome = true) → (l.mapM (fun f => do pure (f.offset, ← sizeOf f.type)) : Sem (List (Nat × Nat))).run P w = .ok (l.map fun f => (f.offset, ((P.info? f.type).map (·.size)).getD 0)) w := by
    intro l
    induction l with
    | nil => intro _; rfl
    | cons f l ih =>
      intro h
      have h0 := h f (by simp)
      rcases hq : P.info? f.type with _ | q
      · rw [hq] at h0; cases h0
      · have hsz : (P.info? f.type).map (·.size) = some q.size := by rw [hq]; rfl
        rw [List.mapM_cons]
        simp only [Sem.run_bind, run_size hsz, Result.andThen_ok, Sem.run_pure, ih (fun g hg => h g (by simp [hg])), List.map_cons, hq, Option.map_some, Option.getD_some]
  have h1 := key fs.toList (fun f hf' => by
    have := Array.all_eq_true_iff_forall_mem.1 hf f (by simpa using hf')
    exact this)
  refine ⟨(fs.toList.map fun f => (f.offset, ((P.info? f.type).map (·.size)).getD 0)).toArray, ?_, fun i => ?_⟩
  · rw [Array.mapM_eq_mapM_toList, Sem.run_map, h1]; rfl
  · simp only [List.getElem?_toArray, List.getElem?_map, Array.getElem?_toList, placeS]
    rcases hfi : fs[i]? with _ | f
    · rfl
    · have hm : (P.info? f.type).isSome = true := Array.all_eq_true_iff_forall_mem.1 hf f (Array.mem_of_getElem? hfi)
      rcases hq : P.info? f.type with _ | q
      · rw [hq] at hm; cases hm
      · simp [hq]
noncomputable def okBld (P : Program) (NG N : Nat) (o : Oper) (n : Nat) (z : AV) (ps : List (Nat × Nat × X)) (d : D) : Bool := dB o.dst d && (match o.op with
  | .build t l => zB P t z && Nat.beq (lenL z) n && (match P.underlying t with
    | some (.struct fs) => fs.all (fun f => (P.info? f.type).isSome) && placeB (placeS P fs) n NG N l.toList ps
    | some (.array _ el) => (match P.info? el with | some q => placeB (fun i => some (i * q.size, q.size)) n NG N l.toList ps | none => false)
    | _ => false)
  | _ => false)
theorem snd_bld {n : Nat} {z : AV} {ps : List (Nat × Nat × X)} {d : D} (h : okBld P NG N o n z ps d = true) : Snd P NG B0 N C o (.bld n z ps d) := fun c _ fr s => by
  simp only [okBld, Bool.and_eq_true] at h
  obtain ⟨hd, h⟩ := h
  show Ct (hBld n z ps d c fr s) _
  unfold hBld
  refine Ct.layP fun cs hlaid => Ct.fin (do_pure hd fun r w a hb hs hf => ?_)
  split at h
  case h_2 => cases h
  rename_i t l e'
  simp only [Bool.and_eq_true] at h
  obtain ⟨⟨hz, hn⟩, h⟩ := h
  obtain ⟨v, hv, hzr⟩ := zB_eq hz
  obtain rfl := Nat.eq_of_beq_eq_true hn
  have hsz : v.cells.size = lenL z := by rw [relL_len (hzr r), Array.length_toList]
  have hc0 : Cells r (Cs.putL z 0 (Cs.mk (lenL z))) 0 v.cells := Cells.new (hzr r)
  have hmap : (l.map fun x => match x with | (i, x) => (i, a.eval x)).toList = l.toList.map fun p => (p.1, a.eval p.2) := by rw [Array.toList_map]
  have fin : ∀ {place : Nat → Option (Nat × Nat)}, placeB place (lenL z) NG N l.toList ps = true → ∃ A', Instr.fill place v.cells (l.map fun x => match x with | (i, x) => (i, a.eval x)).toList = some A' ∧ Rel r (.agg (Cs.getL cs (lenL z) 0)) (.agg A') := fun hp => by
    rw [hmap]
    obtain ⟨A', f1, f2, f3⟩ := fill_ok (placeB_ok hb hf hp) hlaid hsz hc0
    exact ⟨A', f1, ⟨A', rfl, by have := getL_all f3 (lenL z) 0 (by omega); rwa [List.drop_zero] at this⟩⟩
  split at h
  · rename_i fs hu
    simp only [Bool.and_eq_true] at h
    obtain ⟨A', f1, f2⟩ := fin h.2
    obtain ⟨pl, p1, p2⟩ := run_places fs h.1 w
    refine ⟨.agg A', ?_, f2⟩
    rw [ex_build e']
    refine run_v ?_
    have : (fun i => pl[i]?) = placeS P fs := funext p2
    simp only [Instr.build, Sem.run_bind, hv, Result.andThen_ok, run_und hu, p1, this, f1, Sem.run_pure]
  · rename_i q el hu
    split at h
    · rename_i q hq
      obtain ⟨A', f1, f2⟩ := fin h
      refine ⟨.agg A', ?_, f2⟩
      rw [ex_build e']
      refine run_v ?_
      have hsz : (P.info? el).map (·.size) = some q.size := by rw [hq]; rfl
      simp only [Instr.build, Sem.run_bind, hv, Result.andThen_ok, run_und hu, run_size hsz, f1, Sem.run_pure]
    · cases h
  · cases h
end
end Go.Proofs.YtenpbpgoglepfaaGreatDoor
namespace Go.Proofs.YtenpbpgoglepfaaGreatDoor
open Go.RowKit
set_option linter.unusedVariables false

theorem relL_of {r : Rho} : ∀ {l : AV} {vs : List Value}, IsL l → lenL l = vs.length → (∀ j v, vs[j]? = some v → Rel r (nthL l j) v) → RelL r l vs := by
  intro l vs h
  induction h generalizing vs with
  | nil =>
    intro e _
    have : vs = [] := List.length_eq_zero_iff.1 e.symm
    subst this
    rfl
  | cons x h ih =>
    intro e k
    rw [lenL_cons] at e
    cases vs with
    | nil => cases e
    | cons v vs => exact ⟨v, vs, rfl, k 0 v rfl, ih (by simpa using e) fun j u hu => k (j + 1) u hu⟩
theorem app_isL {l m : AV} (h : IsL l) (k : IsL m) : IsL (AV.app l m) := by
  induction h with
  | nil => exact k
  | cons x h ih => exact .cons x ih
theorem app_len {l m : AV} (h : IsL l) : lenL (AV.app l m) = lenL l + lenL m := by
  induction h with
  | nil => rw [show AV.app .nil m = m from rfl]; show lenL m = 0 + lenL m; omega
  | @cons x l h ih =>
    have e : AV.app (.cons x l) m = .cons x (AV.app l m) := rfl
    rw [e, lenL_cons, lenL_cons, ih]
    omega
theorem app_rel {r : Rho} {l m : AV} {us vs : List Value} (h : RelL r l us) (k : RelL r m vs) : RelL r (AV.app l m) (us ++ vs) := by
  have hl := relL_isL h
  induction hl generalizing us with
  | nil => simp only [RelL] at h; subst h; exact k
  | cons x hl ih =>
    obtain ⟨v, vs', rfl, h1, h2⟩ := h
    exact ⟨v, vs' ++ vs, rfl, h1, ih h2⟩
theorem repL_rel {r : Rho} {z : AV} {cs : List Value} (h : RelL r z cs) : ∀ n, RelL r (repL n z) (List.replicate n cs).flatten
  | 0 => rfl
  | n + 1 => by
    rw [List.replicate_succ, List.flatten_cons]
    exact app_rel h (repL_rel h n)
theorem made_flat (cs : Array Value) : ∀ n, (madeCells cs (n * cs.size)).toList = (List.replicate n cs.toList).flatten := by
  intro n
  apply List.ext_getElem?
  intro j
  have key : ∀ n j, ((List.replicate n cs.toList).flatten)[j]? = if j < n * cs.size then cs[j % cs.size]? else none := by
    intro n
    induction n with
    | zero => intro j; simp
    | succ n ih =>
      intro j
      rw [List.replicate_succ, List.flatten_cons, List.getElem?_append]
      by_cases hj : j < cs.size
      · rw [if_pos (by rw [Array.length_toList]; exact hj), if_pos (by rw [Nat.add_mul]; omega), Nat.mod_eq_of_lt hj, Array.getElem?_toList]
      · rw [if_neg (by rw [Array.length_toList]; exact hj), ih, Array.length_toList]
        have e : (j - cs.size) % cs.size = j % cs.size := by
          rw [Nat.mod_eq_sub_mod (by omega : j ≥ cs.size)]
        rw [e]
        by_cases hh : j - cs.size < n * cs.size
        · rw [if_pos hh, if_pos (by rw [Nat.add_mul]; omega)]
        · rw [if_neg hh, if_neg (by rw [Nat.add_mul]; omega)]
  rw [key, Array.getElem?_toList, madeCells, Array.getElem?_map]
  by_cases hj : j < n * cs.size
  · rw [if_pos hj]
    have hz : 0 < cs.size := by
      rcases Nat.eq_zero_or_pos cs.size with h | h
      · rw [h] at hj; omega
      · exact h
    have hm := Nat.mod_lt j hz
    rw [Array.getElem?_range, if_pos hj, Option.map_some, Array.getElem?_eq_getElem hm, getElem!_pos cs _ hm]
  · rw [if_neg hj, Array.getElem?_range, if_neg hj]
    rfl

section
variable {P : Program} {NG : Env} {B0 N : Nat} {C : CallE → Prop} {o : Oper} {E : Fr → St → Prop}
theorem new_row {r : Rho} {s : St} {w : World} (h : Sim B0 r s w) {c : Cs} {cs : Array Value} (t : TypeId) (f : Nat × Nat) (hc : Cells r c 0 cs) (hf : f.2 = 0 ∨ cs.size ≤ f.1) :
    Sim B0 (r.push w.heap.size 0 cs.size) (.mk (Hp.put s.h s.n (.rw c)) (Nat.succ s.n)) (w.alloc (.cells cs t f)) ∧ Stp r s w (r.push w.heap.size 0 cs.size) (.mk (Hp.put s.h s.n (.rw c)) (Nat.succ s.n)) (w.alloc (.cells cs t f)) := by
  have hle := r.le_push h.lt w.heap.size 0 cs.size
  obtain ⟨p1, p2, p3⟩ := r.push_at w.heap.size 0 cs.size
  refine h.new (.cells cs t f) (.rw c) cs.size ⟨⟨r.push_n _ _ _, cs, t, f, ?_, p3.symm, ?_, hf⟩, ?_⟩
  · rw [p1]; show (w.heap.push _)[w.heap.size]? = _; simp
  · rw [p2]; exact hc.le hle
  · rw [p1]; exact h.low
theorem new_s {r : Rho} {s : St} {w : World} (h : Sim B0 r s w) {t z n c cp : Nat} {ex : Bool} (h1 : n ≤ cp) (h2 : cp ≤ c) (h3 : ex = true → c = cp) (h4 : c * z ≤ t) : Rel (r.push w.heap.size 0 t) (.s s.n 0 z n cp ex) (.slice (some ⟨w.heap.size, 0, none⟩) n c) := by
  obtain ⟨p1, p2, p3⟩ := r.push_at w.heap.size 0 t
  rw [h.n]
  exact ⟨r.push_n _ _ _, 0, c, by rw [p1], fun _ => by rw [p2], h2, h3, h1, by rw [p3]; omega⟩
noncomputable def okBls (P : Program) (NG N : Nat) (o : Oper) (z n : Nat) (zs : AV) (ps : List (Nat × Nat × X)) (d : D) : Bool := dB o.dst d && (match o.op with
  | .buildSlice t n' l => Nat.beq n' n && (match P.underlying t with
    | some (.slice el) => (match P.info? el with
      | some q => Nat.beq q.size z && Nat.ble (n * z) 16777216 && (match q.zero with | some v => Nat.beq v.cells.size z && cLB (madeCells v.cells (n * z)).toList zs && placeB (fun i => some (i * z, z)) (n * z) NG N l.toList ps | none => false)
      | none => false)
    | _ => false)
  | _ => false)
theorem snd_bls {z n : Nat} {zs : AV} {ps : List (Nat × Nat × X)} {d : D} (h : okBls P NG N o z n zs ps d = true) : Snd P NG B0 N C o (.bls z n zs ps d) := fun c _ fr s => by
  simp only [okBls, Bool.and_eq_true] at h
  obtain ⟨hd, h⟩ := h
  show Ct (hBls z n zs ps d c fr s) _
  unfold hBls
  refine Ct.layP fun cs hlaid => Ct.withSt (Ct.strictN (Ct.must fun _ => Ct.fin (do_val hd fun r w a hb hs hf => ?_)))
  split at h
  case h_2 => cases h
  rename_i t n' l e'
  simp only [Bool.and_eq_true] at h
  obtain ⟨hn, h⟩ := h
  obtain rfl := Nat.eq_of_beq_eq_true hn
  split at h
  case h_2 => cases h
  rename_i el hu
  split at h
  case h_2 => cases h
  rename_i q hq
  simp only [Bool.and_eq_true] at h
  obtain ⟨⟨hz, hle⟩, h⟩ := h
  obtain rfl := Nat.eq_of_beq_eq_true hz
  have hle := Nat.le_of_ble_eq_true hle
  split at h
  case h_2 => cases h
  rename_i v hv
  simp only [Bool.and_eq_true] at h
  obtain ⟨⟨hvs, hzs⟩, hp⟩ := h
  have hvs := Nat.eq_of_beq_eq_true hvs
  have hmap : (l.map fun x => match x with | (i, x) => (i, a.eval x)).toList = l.toList.map fun p => (p.1, a.eval p.2) := by rw [Array.toList_map]
  have hsz0 : (madeCells v.cells (n' * q.size)).size = n' * q.size := size_madeCells _ _
  obtain ⟨A', f1, f2, f3⟩ := fill_ok (placeB_ok hb hf hp) hlaid hsz0 (Cells.new (cLB_rel r hzs))
  obtain ⟨s1, s2⟩ := new_row hs el (0, 0) f3 (.inl rfl)
  refine ⟨.slice (some ⟨w.heap.size, 0, none⟩) n' n', _, _, ?_, new_s hs (Nat.le_refl _) (Nat.le_refl _) (fun _ => rfl) (by rw [f2]; exact Nat.le_refl _), s1, s2⟩
  rw [ex_buildSlice e']
  refine run_v ?_
  have hsz : (P.info? el).map (·.size) = some q.size := by rw [hq]; rfl
  have hzero : ∀ w, (zeroValue el).run P w = .ok v w := fun w => by simp only [zeroValue, Sem.run_bind, run_info hq, Result.andThen_ok, hv, Sem.run_pure]
  rw [← hmap] at f1
  have hlim : ¬ (n' * q.size > 2 ^ 24) := by
    have : (2 : Nat) ^ 24 = 16777216 := by decide
    omega
  simp only [Instr.buildSlice, Sem.run_bind, run_und hu, Result.andThen_ok, run_size hsz, if_neg hlim]
  by_cases h0 : n' * q.size = 0
  · simp only [h0, if_true, Sem.run_bind, Sem.run_pure, Result.andThen_ok]
    rw [h0] at f1
    have e0 : (Array.range 0).map (fun x => (#[] : Array Value)[x % (#[] : Array Value).size]!) = madeCells v.cells 0 := by simp [madeCells, Array.range_zero']
    rw [e0, f1]
    simp only [Sem.run_bind, newRow, run_newObj_alloc, Result.andThen_ok, Sem.run_pure]
  · simp only [if_neg h0, Sem.run_bind, hzero, Result.andThen_ok, Sem.run_pure]
    have e0 : (Array.range (n' * q.size)).map (fun x => v.cells[x % v.cells.size]!) = madeCells v.cells (n' * q.size) := rfl
    rw [e0, f1]
    simp only [Sem.run_bind, newRow, run_newObj_alloc, Result.andThen_ok, Sem.run_pure]
noncomputable def okMkm (o : Oper) (d : D) : Bool := dB o.dst d && (match o.op with | .makeMap t none => true | _ => false)
theorem snd_mkm {d : D} (h : okMkm o d = true) : Snd P NG B0 N C o (.mkm d) := fun c _ fr s => by
  simp only [okMkm, Bool.and_eq_true] at h
  obtain ⟨hd, h⟩ := h
  show Ct (hMkm d c fr s) _
  unfold hMkm
  refine Ct.withSt (Ct.strictN (Ct.must fun _ => Ct.fin (do_val hd fun r w a hb hs hf => ?_)))
  split at h
  · rename_i t e'
    obtain ⟨p1, p2, p3⟩ := r.push_at w.heap.size 0 0
    obtain ⟨s1, s2⟩ := hs.new (.map #[] 0) (.mp .nil) 0 ⟨r.push_n _ _ _, by rw [p1]; exact hs.low, #[], 0, by rw [p1]; show (w.heap.push _)[w.heap.size]? = _; simp, rfl, MapKept.stamped_empty 0⟩
    refine ⟨.map (some w.heap.size), _, _, ?_, ?_, s1, s2⟩
    · rw [ex_makeMap e']
      exact run_v rfl
    · rw [hs.n]
      exact ⟨r.push_n _ _ _, by rw [p1]⟩
  · cases h
noncomputable def okMks (P : Program) (NG N : Nat) (o : Oper) (z : Nat) (zs : AV) (x y : X) (d : D) : Bool := dB o.dst d && (match o.op with
  | .makeSlice t p p' => xB NG N p x && xB NG N p' y && (match P.underlying t with
    | some (.slice el) => (match P.info? el with
      | some q => Nat.beq q.size z && Nat.ble 1 z && Nat.ble q.bytes 1000000 && (match q.zero with | some v => Nat.beq v.cells.size z && cLB v.cells.toList zs | none => false)
      | none => false)
    | _ => false)
  | _ => false)
theorem snd_mks {z : Nat} {zs : AV} {x y : X} {d : D} (h : okMks P NG N o z zs x y d = true) : Snd P NG B0 N C o (.mks z zs x y d) := fun c _ fr s => by
  simp only [okMks, Bool.and_eq_true] at h
  obtain ⟨hd, h⟩ := h
  show Ct (hMks z zs x y d c fr s) _
  unfold hMks
  refine Ct.onI fun t1 i1 e1 => Ct.natI fun m hm => Ct.onI fun t2 i2 e2 => Ct.natI fun n hn => Ct.must fun hmn => Ct.must fun hlim => Ct.newB (Ct.fin (do_val hd fun r w a hb hs hf => ?_))
  subst hm hn
  have hmn := Nat.le_of_ble_eq_true hmn
  have hlim := Nat.le_of_ble_eq_true hlim
  split at h
  case h_2 => cases h
  rename_i t p p' e'
  simp only [Bool.and_eq_true] at h
  obtain ⟨⟨hx, hy⟩, h⟩ := h
  have h1 := xB_rel hx hb hf
  have h2 := xB_rel hy hb hf
  rw [e1] at h1
  rw [e2] at h2
  simp only [Rel] at h1 h2
  split at h
  case h_2 => cases h
  rename_i el hu
  split at h
  case h_2 => cases h
  rename_i q hq
  simp only [Bool.and_eq_true] at h
  obtain ⟨⟨⟨hz, hz1⟩, hby⟩, h⟩ := h
  obtain rfl := Nat.eq_of_beq_eq_true hz
  have hz1 := Nat.le_of_ble_eq_true hz1
  have hby := Nat.le_of_ble_eq_true hby
  split at h
  case h_2 => cases h
  rename_i v hv
  simp only [Bool.and_eq_true] at h
  obtain ⟨hvs, hzs⟩ := h
  have hvs := Nat.eq_of_beq_eq_true hvs
  have hn : n ≤ 4096 := by
    have h3 : n * q.size ≤ 4096 := hlim
    have h4 : n * 1 ≤ n * q.size := Nat.mul_le_mul_left n hz1
    omega
  have hb2 : (q.bytes : Int) * (n : Int) ≤ 281474976710656 := by
    have h3 : q.bytes * n ≤ 1000000 * 4096 := Nat.mul_le_mul hby hn
    have h4 : ((q.bytes * n : Nat) : Int) ≤ 281474976710656 := by omega
    rwa [Int.natCast_mul] at h4
  have hrel : RelL r (repL n zs) (madeCells v.cells (n * q.size)).toList := by
    rw [← hvs, made_flat]
    exact repL_rel (cLB_rel r hzs) n
  obtain ⟨s1, s2⟩ := new_ok hs el (Nat.mul n q.size) hrel
  refine ⟨.slice (some ⟨w.heap.size, 0, none⟩) m n, _, _, ?_, ?_, s1, s2⟩
  · rw [ex_makeSlice e', h1, h2]
    refine run_v ?_
    have := run_make (P := P) w t el q v hu hq hv t1 t2 (m : Int) (n : Int) (by omega) (by omega) hb2 (by omega)
    simp only [Int.toNat_natCast] at this
    exact this
  · exact new_s hs hmn (Nat.le_refl _) (fun _ => rfl) (by rw [size_madeCells]; exact Nat.le_refl _)
end
end Go.Proofs.YtenpbpgoglepfaaGreatDoor
namespace Go.Proofs.YtenpbpgoglepfaaGreatDoor
open Go.RowKit
set_option linter.unusedVariables false

section
variable {P : Program} {NG : Env} {B0 N : Nat} {C : CallE → Prop} {o : Oper} {E : Fr → St → Prop}
/-- The cells of a slice. -/
def CellsOf (z : Nat) (v : AV) (s : St) (n : Nat) (l : AV) : Prop :=
  (v = .ns ∧ n = 0 ∧ l = .nil) ∨ ∃ b q cp ex, v = .s b q z n cp ex ∧ ((n = 0 ∧ l = .nil) ∨ (0 < n ∧ ∃ cs, (Hp.get s.h b = .ro cs ∨ Hp.get s.h b = .rw cs) ∧ l = Cs.getL cs (n * z) q ∧ allOne l = true))
theorem Ct.cellsS {z : Nat} {v : AV} {s : St} {f : Nat → AV → K → R} (h : ∀ n l, CellsOf z v s n l → Ct (f n l) E) : Ct (fun k => Go.Proofs.YtenpbpgoglepfaaGreatDoor.cellsS z v s fun n l => f n l k) E := by
  unfold Go.Proofs.YtenpbpgoglepfaaGreatDoor.cellsS
  refine Ct.isNs (fun _ => ?_) fun e => h 0 .nil (.inl ⟨e, rfl, rfl⟩)
  refine Ct.onS fun b q z' n cp ex e => Ct.must fun hz => ?_
  obtain rfl := Nat.eq_of_beq_eq_true hz
  cases n with
  | zero => exact h 0 .nil (.inr ⟨b, q, cp, ex, e, .inl ⟨rfl, rfl⟩⟩)
  | succ n =>
    refine Ct.onR (g := Hp.get s.h b) (f := fun cs k => ifB (allOne (Cs.getL cs (Nat.mul (n + 1) z) q)) (f (n + 1) (Cs.getL cs (Nat.mul (n + 1) z) q) k) .bad) fun cs hcs => Ct.must fun ha => h _ _ (.inr ⟨b, q, cp, ex, e, .inr ⟨Nat.succ_pos n, cs, hcs, rfl, ha⟩⟩)
/-- .. as the machine has them. -/
theorem cellsOf_rel {z n : Nat} {v l : AV} {x : Value} {r : Rho} {s : St} {w : World} (h : CellsOf z v s n l) (hs : Sim B0 r s w) (hr : Rel r v x) :
    allOne l = true ∧ ∃ (A : Option Addr) (c : Nat) (vs : List Value), x = .slice A n c ∧ RelL r l vs ∧ vs.length = n * z ∧ (∀ j u, vs[j]? = some u → ∃ y, A = some y ∧ w.cell? (y.add j) = some u) ∧ (0 < n → A ≠ none) := by
  rcases h with ⟨rfl, rfl, rfl⟩ | ⟨b, q, cp, ex, rfl, h⟩
  · simp only [Rel] at hr
    exact ⟨rfl, none, 0, [], hr, rfl, by simp, fun j u hj => by simp at hj, fun h => absurd h (Nat.lt_irrefl 0)⟩
  · obtain ⟨hb, x0, c0, hv, hx, _, _, hlc, _⟩ := hr
    rcases h with ⟨rfl, rfl⟩ | ⟨hn, cs, hcs, rfl, ha⟩
    · exact ⟨rfl, _, c0, [], hv, rfl, by simp, fun j u hj => by simp at hj, fun h => absurd h (Nat.lt_irrefl 0)⟩
    · obtain ⟨_, rcs, t', f', hh, hz, hc, hfz⟩ := row_of hs hcs
      obtain ⟨vs, v1, v2, v3⟩ := getL_rel hc _ q ha
      refine ⟨ha, _, c0, vs, hv, v1, v2, fun j u hj => ⟨_, rfl, ?_⟩, fun _ => by simp⟩
      rw [Addr.add_mid, cell_at hh, hx (Nat.lt_of_lt_of_le hn hlc)]
      obtain ⟨u', e1, e2⟩ := v3 j (by rw [← v2]; exact (List.getElem?_eq_some_iff.1 hj).1)
      rw [e2, ← e1, hj]
theorem lNats_rel {r : Rho} : ∀ {l : AV} {m : List Nat} {vs : List Value}, lNats l = some m → RelL r l vs → vs = (m.map r.byt).map (fun (x : Nat) => Value.int .u8 (x : Int)) := by
  intro l
  induction l with
  | nil =>
    intro m vs h k
    simp only [lNats, Option.some.injEq] at h
    simp only [RelL] at k
    subst h k
    rfl
  | cons x l _ ih =>
    intro m vs h k
    obtain ⟨v, vs, rfl, k1, k2⟩ := k
    unfold lNats at h
    split at h
    · rename_i heq; cases heq
    · rename_i y t heq
      cases heq
      split at h
      case isFalse => cases h
      rename_i hy
      have hy := blt_lt hy
      split at h
      · rename_i m' hm
        cases h
        have e1 := ih hm k2
        simp only [Rel] at k1
        subst k1 e1
        rw [List.map_cons, List.map_cons, byt_low r hy]
        rfl
      · cases h
    · rename_i j t heq
      cases heq
      split at h
      · rename_i m' hm
        cases h
        have e1 := ih hm k2
        simp only [Rel] at k1
        subst k1 e1
        rw [List.map_cons, List.map_cons]
        have : r.byt (256 + j) = r.opn j := by
          unfold Rho.byt
          rw [if_neg (by omega), Nat.add_sub_cancel_left]
        rw [this]
        rfl
      · cases h
    · cases h
  | _ => intro m vs h k; simp [RelL] at k
theorem push_toList (s : ByteArray) (b : UInt8) : (s.push b).data.toList = s.data.toList ++ [b] := by
  show (s.data.push b).toList = _
  rw [Array.toList_push]
theorem fold_bytes : ∀ (m : List Nat) (s : ByteArray), (∀ x ∈ m, x < 256) → ((m.map (fun (x : Nat) => (x : Int))).foldl (fun (r : ByteArray) (n : Int) => r.push (UInt8.ofNat n.toNat)) s).data.toList.map (fun b => b.toNat) = s.data.toList.map (fun b => b.toNat) ++ m
  | [], s, _ => by simp
  | x :: m, s, h => by
    rw [List.map_cons, List.foldl_cons, fold_bytes m _ (fun y hy => h y (by simp [hy])), push_toList, List.map_append, List.append_assoc]
    have hx := h x (by simp)
    have : (UInt8.ofNat (x : Int).toNat).toNat = x := by
      rw [Int.toNat_natCast, UInt8.toNat_ofNat']
      exact Nat.mod_eq_of_lt hx
    rw [List.map_singleton, this]
    rfl
noncomputable def okB2s (P : Program) (NG N : Nat) (o : Oper) (x : X) (d : D) : Bool := dB o.dst d && (match o.op with | .convert t u p => xB NG N p x && (match P.underlying t, P.underlying u with | some (.slice el), some .string => (match P.underlying el with | some (.int .u8) => true | _ => false) | _, _ => false) | _ => false)
theorem snd_b2s {x : X} {d : D} (h : okB2s P NG N o x d = true) : Snd P NG B0 N C o (.b2s x d) := fun c _ fr s => by
  simp only [okB2s, Bool.and_eq_true] at h
  obtain ⟨hd, h⟩ := h
  show Ct (hB2s x d c fr s) _
  unfold hB2s
  refine Ct.cellsS fun n l hl => ?_
  rcases hm : lNats l with _ | m
  · exact Ct.bad
  refine Ct.fin (do_pure hd fun r w a hb hs hf => ?_)
  split at h
  case h_2 => cases h
  rename_i t u p e'
  simp only [Bool.and_eq_true] at h
  obtain ⟨hx, h⟩ := h
  split at h
  case h_2 => cases h
  rename_i el h1 h2
  split at h
  case h_2 => cases h
  rename_i h3
  obtain ⟨ha, A, cc, vs, e1, e2, e3, e4, e5⟩ := cellsOf_rel hl hs (xB_rel hx hb hf)
  obtain rfl := lNats_rel hm e2
  have hlt : ∀ x ∈ m.map r.byt, x < 256 := fun x hx => by
    obtain ⟨y, _, rfl⟩ := List.mem_map.1 hx
    exact byt_lt r y
  rw [Nat.mul_one, List.length_map, List.length_map] at e3
  cases A with
  | none =>
    have : n = 0 := by
      rcases Nat.eq_zero_or_pos n with h | h
      · exact h
      · exact absurd rfl (e5 h)
    have : m = [] := List.length_eq_zero_iff.1 (e3.trans this)
    subst this
    refine ⟨.string .empty, ?_, ⟨_, rfl, rfl⟩⟩
    rw [ex_convert e', e1]
    refine run_v ?_
    rw [run_convert_bytes_string w t u el none n cc h1 h3 h2]
    rfl
  | some y =>
    refine ⟨_, ?_, ⟨_, rfl, (fold_bytes (m.map r.byt) .empty hlt).trans (List.nil_append _)⟩⟩
    rw [ex_convert e', e1]
    refine run_v ?_
    rw [run_convert_bytes_string w t u el (some y) n cc h1 h3 h2]
    refine run_bytesToString w y n cc ((m.map r.byt).map fun (x : Nat) => (x : Int)) ?_
    have := run_loadCells_list (P := P) w y ((m.map r.byt).map (fun (x : Nat) => Value.int .u8 (x : Int))) (fun j v hj => by
      obtain ⟨y', h1, h2⟩ := e4 j v hj
      cases h1
      exact h2)
    rw [List.length_map, List.length_map, e3] at this
    rw [this, List.map_map (f := fun (x : Nat) => (x : Int))]
    rfl
theorem natsL_rel {r : Rho} : ∀ (l : List Nat) (s : List UInt8), s.map (fun b => b.toNat) = l.map r.byt → RelL r (natsL l) (s.map fun b => Value.int .u8 (b.toNat : Int))
  | [], [], _ => rfl
  | x :: l, b :: s, h => by
    simp only [List.map_cons, List.cons.injEq] at h
    refine ⟨_, _, rfl, ?_, natsL_rel l s h.2⟩
    show Rel r (natA x) (.int .u8 (b.toNat : Int))
    rw [h.1]
    exact natA_rel r x
  | [], _ :: _, h => by cases h
  | _ :: _, [], h => by cases h
noncomputable def okS2b (P : Program) (NG N : Nat) (o : Oper) (x : X) (d : D) : Bool := dB o.dst d && (match o.op with | .convert t u p => xB NG N p x && (match P.underlying t, P.underlying u with | some .string, some (.slice el) => (match P.underlying el with | some (.int .u8) => true | _ => false) | _, _ => false) | _ => false)
theorem snd_s2b {x : X} {d : D} (h : okS2b P NG N o x d = true) : Snd P NG B0 N C o (.s2b x d) := fun c _ fr s => by
  simp only [okS2b, Bool.and_eq_true] at h
  obtain ⟨hd, h⟩ := h
  show Ct (hS2b x d c fr s) _
  unfold hS2b
  refine Ct.onStr fun l e => Ct.newB (Ct.fin (do_val hd fun r w a hb hs hf => ?_))
  split at h
  case h_2 => cases h
  rename_i t u p e'
  simp only [Bool.and_eq_true] at h
  obtain ⟨hx, h⟩ := h
  split at h
  case h_2 => cases h
  rename_i el h1 h2
  split at h
  case h_2 => cases h
  rename_i h3
  have hr := xB_rel hx hb hf
  rw [e] at hr
  obtain ⟨str, hv, hl⟩ := hr
  have hsz := str_size hl
  have hge : str.size ≤ grownCap w str.size 0 el := grownCap_ge w str.size 0 el
  have hcz : (Lib.bytesCells w el str).size = str.size + (grownCap w str.size 0 el - str.size) := by
    simp [Lib.bytesCells]
  have hc : Cells r (Cs.putL (natsL l) 0 (Cs.mk l.length)) 0 (Lib.bytesCells w el str) := by
    refine Cells.putL (cs := Lib.bytesCells w el str) Cells.mk (natsL_rel l str.data.toList hl) (fun j hj => ?_) fun _ _ => rfl
    rw [List.length_map, Array.length_toList] at hj
    have hj' : j < str.data.size := hj
    simp only [Nat.zero_add, Lib.bytesCells]
    rw [Array.getElem?_append_left (by rw [Array.size_map]; exact hj'), Array.getElem?_map, List.getElem?_map, Array.getElem?_toList]
  obtain ⟨s1, s2⟩ := new_row hs el ((Lib.bytesCells w el str).size, (Lib.bytesCells w el str).size + 1) hc (.inr (Nat.le_refl _))
  have hheap : (Lib.bytesWorld w el str).heap = (w.alloc (.cells (Lib.bytesCells w el str) el ((Lib.bytesCells w el str).size, (Lib.bytesCells w el str).size + 1))).heap := by
    apply Array.ext_getElem?
    intro i
    show _ = (w.heap.push _)[i]?
    rw [Array.getElem?_push]
    by_cases hi : i = w.heap.size
    · rw [if_pos hi, hi]; exact Lib.bytesWorld_at_new w el str
    · rw [if_neg hi]
      by_cases hlt : i < w.heap.size
      · exact Lib.bytesWorld_at_old w el str i hlt
      · rw [Array.getElem?_eq_none (by rw [Lib.bytesWorld_size]; omega), Array.getElem?_eq_none (by omega)]
  have hosf : (Lib.bytesWorld w el str).os = w.os ∧ (Lib.bytesWorld w el str).tape = w.tape ∧ (Lib.bytesWorld w el str).output = w.output := ⟨rfl, rfl, rfl⟩
  refine ⟨_, _, _, ?_, new_s hs (c := grownCap w str.size 0 el) (t := (Lib.bytesCells w el str).size) (Nat.le_refl l.length) (by rw [← hsz]; exact hge) (fun h => by cases h) (by rw [hcz]; omega), s1.same hheap, s2.trans (Stp.same hosf.1 hosf.2.1 hosf.2.2 hheap)⟩
  rw [ex_convert e', hv]
  refine run_v ?_
  rw [← hsz]
  exact Lib.run_convert_string_bytes w t u el str h1 h2 h3
end
end Go.Proofs.YtenpbpgoglepfaaGreatDoor
namespace Go.Proofs.YtenpbpgoglepfaaGreatDoor
open Go.RowKit
set_option linter.unusedVariables false

section
variable {r : Rho} {q kk : IntKind} {j : Int}
theorem relM_nil {l : AV} (h : RelM r l []) : l = .nil := by
  cases l <;> simp [RelM, RelL] at h
  rfl
theorem relM_cons {l : AV} {e : MapEntry} {es : List MapEntry} (h : RelM r l (e :: es)) : ∃ k v m, l = .cons k (.cons v m) ∧ Rel r k e.key ∧ Rel r v e.val ∧ RelM r m es := by
  cases l <;> simp only [RelM, List.flatMap_cons, RelL, List.cons_append, List.nil_append, reduceCtorEq] at h
  obtain ⟨k, vs, e1, h1, h2⟩ := h
  cases e1
  rename_i x t
  cases t <;> simp only [RelL, reduceCtorEq] at h2
  obtain ⟨v, vs, e1, h3, h4⟩ := h2
  cases e1
  exact ⟨_, _, _, rfl, h1, h3, h4⟩
theorem relM_mk {k v m : AV} {e : MapEntry} {es : List MapEntry} (h1 : Rel r k e.key) (h2 : Rel r v e.val) (h3 : RelM r m es) : RelM r (.cons k (.cons v m)) (e :: es) := ⟨_, _, rfl, h1, _, _, rfl, h2, h3⟩
theorem now_hit {e : MapEntry} {es : List MapEntry} {i0 : Nat} (h : e.key = .int q j) : Instr.findNow (.int kk) (.int q j) (e :: es) i0 = some (some (i0, e.val)) := by
  unfold Instr.findNow
  rw [h]
  simp [Instr.sameNow]
theorem now_miss {e : MapEntry} {es : List MapEntry} {i0 : Nat} {i : Int} (h : e.key = .int q i) (hne : i ≠ j) : Instr.findNow (.int kk) (.int q j) (e :: es) i0 = Instr.findNow (.int kk) (.int q j) es (i0 + 1) := by
  conv => lhs; unfold Instr.findNow
  have hb : (j == i) = false := by simpa using Ne.symm hne
  rw [h]
  simp only [Instr.sameNow, if_true, hb]
/-- A key that is there, at i. -/
def Hit (kk q : IntKind) (j : Int) (es : List MapEntry) (i0 i : Nat) (e : MapEntry) : Prop := es[i]? = some e ∧ Instr.findNow (.int kk) (.int q j) es i0 = some (some (i0 + i, e.val)) ∧ e.key = .int q j
theorem Hit.succ {es : List MapEntry} {i0 i : Nat} {e e0 : MapEntry} {i' : Int} (h : Hit kk q j es (i0 + 1) i e) (h0 : e0.key = .int q i') (hne : i' ≠ j) : Hit kk q j (e0 :: es) i0 (i + 1) e := by
  obtain ⟨h1, h2, h3⟩ := h
  refine ⟨h1, ?_, h3⟩
  rw [now_miss h0 hne, h2]
  congr 3
  omega
theorem look_spec : ∀ {es : List MapEntry} {l : AV} {res : Option AV} (i0 : Nat), lookL q j l = some res → RelM r l es →
    (res = none ∧ Instr.findNow (.int kk) (.int q j) es i0 = some none) ∨ ∃ x i e, res = some x ∧ Hit kk q j es i0 i e ∧ Rel r x e.val
  | [], l, res, i0, h, hr => by
    obtain rfl := relM_nil hr
    simp only [lookL, Option.some.injEq] at h
    exact .inl ⟨h.symm, rfl⟩
  | e :: es, l, res, i0, h, hr => by
    obtain ⟨k, v, m, rfl, h1, h2, h3⟩ := relM_cons hr
    cases k <;> simp only [lookL, reduceCtorEq] at h
    rename_i t i
    simp only [Rel] at h1
    split at h
    case isFalse => cases h
    rename_i hk
    obtain rfl := (kN_eq hk).symm
    split at h
    · rename_i he
      rw [eqI_eq, decide_eq_true_eq] at he
      subst he
      cases h
      exact .inr ⟨v, 0, e, rfl, ⟨rfl, now_hit h1, h1⟩, h2⟩
    · rename_i he
      have hne : i ≠ j := fun e => he (by rw [eqI_eq, decide_eq_true_eq]; exact e)
      rcases look_spec (i0 + 1) h h3 with ⟨e1, e2⟩ | ⟨x, i', e', e1, e2, e3⟩
      · exact .inl ⟨e1, (now_miss h1 hne).trans e2⟩
      · exact .inr ⟨x, i' + 1, e', e1, e2.succ h1 hne, e3⟩
theorem put_spec {v : AV} {val : Value} (hv : Rel r v val) : ∀ {es : List MapEntry} {l m : AV} (i0 : Nat), putL q j v l = some m → RelM r l es →
    (∃ i e, Hit kk q j es i0 i e ∧ RelM r m (es.modify i fun e => { e with key := .int q j, val := val })) ∨ (Instr.findNow (.int kk) (.int q j) es i0 = some none ∧ (∀ x ∈ es, x.key ≠ .int q j) ∧ ∀ born, RelM r m (es ++ [{ key := .int q j, val := val, born := born }]))
  | [], l, m, i0, h, hr => by
    obtain rfl := relM_nil hr
    simp only [putL, Option.some.injEq] at h
    subst h
    exact .inr ⟨rfl, fun _ h => (by cases h), fun born => relM_mk (e := ⟨.int q j, val, born⟩) rfl hv (show RelL r .nil [] from rfl)⟩
  | e :: es, l, m, i0, h, hr => by
    obtain ⟨k, x, t', rfl, h1, h2, h3⟩ := relM_cons hr
    cases k <;> simp only [putL, reduceCtorEq] at h
    rename_i t i
    simp only [Rel] at h1
    split at h
    case isFalse => cases h
    rename_i hk
    obtain rfl := (kN_eq hk).symm
    split at h
    · rename_i he
      rw [eqI_eq, decide_eq_true_eq] at he
      subst he
      cases h
      exact .inl ⟨0, e, ⟨rfl, now_hit h1, h1⟩, relM_mk (e := { e with key := .int q i, val := val }) rfl hv h3⟩
    · rename_i he
      have hne : i ≠ j := fun e => he (by rw [eqI_eq, decide_eq_true_eq]; exact e)
      split at h
      · rename_i m' hm
        cases h
        rcases put_spec hv (i0 + 1) hm h3 with ⟨i', e', e2, e3⟩ | ⟨e2, e4, e3⟩
        · exact .inl ⟨i' + 1, e', e2.succ h1 hne, relM_mk (e := e) h1 h2 e3⟩
        · refine .inr ⟨(now_miss h1 hne).trans e2, fun y hy => ?_, fun born => relM_mk (e := e) h1 h2 (e3 born)⟩
          rcases List.mem_cons.1 hy with rfl | hy
          · rw [h1]; exact fun e => hne (by injection e)
          · exact e4 y hy
      · cases h
theorem del_spec : ∀ {es : List MapEntry} {l m : AV} (i0 : Nat), delL q j l = some m → RelM r l es →
    (∃ i e, Hit kk q j es i0 i e ∧ RelM r m (es.eraseIdx i)) ∨ (Instr.findNow (.int kk) (.int q j) es i0 = some none ∧ RelM r m es)
  | [], l, m, i0, h, hr => by
    obtain rfl := relM_nil hr
    simp only [delL, Option.some.injEq] at h
    subst h
    exact .inr ⟨rfl, hr⟩
  | e :: es, l, m, i0, h, hr => by
    obtain ⟨k, x, t', rfl, h1, h2, h3⟩ := relM_cons hr
    cases k <;> simp only [delL, reduceCtorEq] at h
    rename_i t i
    simp only [Rel] at h1
    split at h
    case isFalse => cases h
    rename_i hk
    obtain rfl := (kN_eq hk).symm
    split at h
    · rename_i he
      rw [eqI_eq, decide_eq_true_eq] at he
      subst he
      cases h
      exact .inl ⟨0, e, ⟨rfl, now_hit h1, h1⟩, h3⟩
    · rename_i he
      have hne : i ≠ j := fun e => he (by rw [eqI_eq, decide_eq_true_eq]; exact e)
      split at h
      · rename_i m' hm
        cases h
        rcases del_spec (i0 + 1) hm h3 with ⟨i', e', e2, e3⟩ | ⟨e2, e3⟩
        · exact .inl ⟨i' + 1, e', e2.succ h1 hne, relM_mk (e := e) h1 h2 e3⟩
        · exact .inr ⟨(now_miss h1 hne).trans e2, relM_mk (e := e) h1 h2 e3⟩
      · cases h
end
end Go.Proofs.YtenpbpgoglepfaaGreatDoor
namespace Go.Proofs.YtenpbpgoglepfaaGreatDoor
open Go.RowKit
set_option linter.unusedVariables false

section
variable {P : Program} {NG : Env} {B0 N : Nat} {C : CallE → Prop} {o : Oper} {E : Fr → St → Prop}
theorem key_int {t : TypeId} {kk q : IntKind} (h : P.underlying t = some (.int kk)) (w : World) (e : Bool) (n : Nat) (j : Int) : (Instr.checkKey e (n + 1) t (.int q j)).run P w = .ok () w := by
  unfold Instr.checkKey
  simp [run_und h]
theorem find_hit {t : TypeId} {kk q : IntKind} (h : P.underlying t = some (.int kk)) {j : Int} {es : List MapEntry} {i : Nat} {e : MapEntry} (hh : Hit kk q j es 0 i e) (w : World) : (Instr.findKey t (.int q j) es).run P w = .ok (some (i, e.val)) w := by
  unfold Instr.findKey
  have := hh.2.1
  rw [Nat.zero_add] at this
  simp [run_und h, this]
theorem find_miss {t : TypeId} {kk q : IntKind} (h : P.underlying t = some (.int kk)) {j : Int} {es : List MapEntry} (hh : Instr.findNow (.int kk) (.int q j) es 0 = some none) (w : World) : (Instr.findKey t (.int q j) es).run P w = .ok none w := by
  unfold Instr.findKey
  simp [run_und h, hh]
theorem get_map {w : World} {b : Nat} {es : Array MapEntry} {cl : Nat} (h : w.heap[b]? = some (.map es cl)) : (getObj b).run P w = .ok (.map es cl) w := by simp [getObj, Sem.run, h]
theorem set_map {w : World} {b : Nat} {es : Array MapEntry} {cl : Nat} (h : w.heap[b]? = some (.map es cl)) (o' : Obj) : (setObj b o').run P w = .ok () { w with heap := w.heap.setIfInBounds b o' } := by
  unfold setObj
  simp only [Sem.run, h]
theorem map_of {r : Rho} {s : St} {w : World} {b : Nat} {l : AV} (hs : Sim B0 r s w) (h : Hp.get s.h b = .mp l) : r.has b ∧ B0 ≤ r.blk b ∧ ∃ es cl, w.heap[r.blk b]? = some (.map es cl) ∧ RelM r l es.toList ∧ MapKept.Stamped es cl := by
  have := hs.ok b
  rw [h] at this
  exact this
/-- The types of a map. -/
noncomputable def mapB (P : Program) (t : Nat) : Bool := match P.underlying t with | some (.map k _) => (match P.underlying k with | some (.int _) => true | _ => false) | _ => false
theorem mapB_eq {t : Nat} (h : mapB P t = true) : ∃ k v kk, P.underlying t = some (.map k v) ∧ P.underlying k = some (.int kk) := by
  unfold mapB at h
  split at h
  · rename_i k v hu
    split at h
    · rename_i kk hk; exact ⟨k, v, kk, hu, hk⟩
    · cases h
  · cases h
noncomputable def okLok (P : Program) (NG N : Nat) (o : Oper) (zv : AV) (x q : X) (ok : Bool) (d : D) : Bool := dB o.dst d && (match o.op with
  | .lookup t p p' ok' => xB NG N p x && xB NG N p' q && (ok' == ok) && mapB P t && (match P.underlying t with | some (.map _ v) => (match P.info? v with | some i => (match i.zero with | some z => cAB z zv | none => false) | none => false) | _ => false)
  | _ => false)
theorem snd_lok {zv : AV} {x q : X} {ok : Bool} {d : D} (h : okLok P NG N o zv x q ok d = true) : Snd P NG B0 N C o (.lok zv x q ok d) := fun c _ fr s => by
  simp only [okLok, Bool.and_eq_true] at h
  obtain ⟨hd, h⟩ := h
  split at h
  case h_2 => cases h
  rename_i t p p' ok' e'
  simp only [Bool.and_eq_true] at h
  obtain ⟨⟨⟨⟨hx, hq⟩, hok⟩, hm⟩, hz⟩ := h
  obtain rfl := beq_iff_eq.1 hok
  obtain ⟨kt, vt, kk, hu, hk⟩ := mapB_eq hm
  rw [hu] at hz
  obtain ⟨zval, hzero, hzr⟩ : ∃ z, (∀ w, (zeroValue vt).run P w = .ok z w) ∧ ∀ r, Rel r zv z := by
    simp only at hz
    split at hz
    · rename_i i hi
      split at hz
      · rename_i z hzz
        exact ⟨z, fun w => by simp only [zeroValue, Sem.run_bind, run_info hi, Result.andThen_ok, hzz, Sem.run_pure], fun r => cAB_rel hz r⟩
      · cases hz
    · cases hz
  show Ct (hLok zv x q ok' d c fr s) _
  unfold hLok
  refine Ct.onI fun tq j eq => Ct.isNm (fun _ => ?_) fun hnm => ?_
  · refine Ct.onM fun b eb => Ct.onMp fun l hl => ?_
    rcases hlook : lookL tq j l with _ | res
    · exact Ct.bad
    refine Ct.fin (do_pure hd fun r w a hb hs hf => ?_)
    have h1 := xB_rel hx hb hf
    have h2 := xB_rel hq hb hf
    rw [eb] at h1
    rw [eq] at h2
    simp only [Rel] at h1 h2
    obtain ⟨_, _, es, cl, hh, hrm, hst⟩ := map_of hs hl
    rcases look_spec (kk := kk) 0 hlook hrm with ⟨rfl, hf0⟩ | ⟨xv, i, e, rfl, hhit, hxv⟩
    · refine ⟨if ok' then .tuple #[zval, .bool false] else zval, ?_, ?_⟩
      · rw [ex_lookup e', h1.2, h2]
        refine run_v ?_
        unfold Instr.lookup
        simp only [Sem.run_bind, run_und hu, Result.andThen_ok, get_map hh, Sem.run_pure, key_int hk, find_miss hk hf0, hzero]
      · cases ok'
        · exact hzr r
        · exact ⟨_, rfl, ⟨_, _, rfl, hzr r, _, _, rfl, rfl, rfl⟩⟩
    · refine ⟨if ok' then .tuple #[e.val, .bool true] else e.val, ?_, ?_⟩
      · rw [ex_lookup e', h1.2, h2]
        refine run_v ?_
        unfold Instr.lookup
        simp only [Sem.run_bind, run_und hu, Result.andThen_ok, get_map hh, Sem.run_pure, key_int hk, find_hit hk hhit]
      · cases ok'
        · exact hxv
        · exact ⟨_, rfl, ⟨_, _, rfl, hxv, _, _, rfl, rfl, rfl⟩⟩
  · refine Ct.fin (do_pure hd fun r w a hb hs hf => ?_)
    have h1 := xB_rel hx hb hf
    have h2 := xB_rel hq hb hf
    rw [hnm] at h1
    rw [eq] at h2
    simp only [Rel] at h1 h2
    refine ⟨if ok' then .tuple #[zval, .bool false] else zval, ?_, ?_⟩
    · rw [ex_lookup e', h1, h2]
      refine run_v ?_
      unfold Instr.lookup
      simp only [Sem.run_bind, run_und hu, Result.andThen_ok, Sem.run_pure, key_int hk, find_miss (es := (#[] : Array MapEntry).toList) hk rfl, hzero]
    · cases ok'
      · exact hzr r
      · exact ⟨_, rfl, ⟨_, _, rfl, hzr r, _, _, rfl, rfl, rfl⟩⟩
theorem keyStays (q : IntKind) (j : Int) (w : World) : (Instr.keyThatStays (.int q j) (.int q j)).run P w = .ok (.int q j) w := by
  unfold Instr.keyThatStays
  simp [Instr.sameBits]
/-- A map that is written. -/
theorem map_ok {r : Rho} {s : St} {w : World} (hs : Sim B0 r s w) {b : Nat} {l m : AV} {es : Array MapEntry} {cl : Nat} (h : Hp.get s.h b = .mp l) (hh : w.heap[r.blk b]? = some (.map es cl)) {es' : Array MapEntry} {cl' : Nat} (hm : RelM r m es'.toList) (hst' : MapKept.Stamped es' cl') :
    Sim B0 r (.mk (Hp.put s.h b (.mp m)) s.n) { w with heap := w.heap.setIfInBounds (r.blk b) (.map es' cl') } ∧ Stp r s w r (.mk (Hp.put s.h b (.mp m)) s.n) { w with heap := w.heap.setIfInBounds (r.blk b) (.map es' cl') } := by
  obtain ⟨h1, h2, _⟩ := map_of hs h
  have hlt := (Array.getElem?_eq_some_iff.1 hh).1
  refine hs.wrote b (.mp m) (by rw [h]; exact trivial) ⟨h1, h2, es', cl', by simp [hlt], hm, hst'⟩ rfl rfl rfl (by simp) (fun x _ hx => ?_)
  show (w.heap.setIfInBounds _ _)[x]? = _
  rw [Array.getElem?_setIfInBounds_ne (Ne.symm hx)]
noncomputable def okMup (P : Program) (NG N : Nat) (o : Oper) (x q v : X) : Bool := o.dst.isNone && (match o.op with
  | .mapUpdate t p p' p2 => xB NG N p x && xB NG N p' q && xB NG N p2 v && mapB P t
  | .insert t p p' p2 => xB NG N p x && xB NG N p' q && xB NG N p2 v && mapB P t
  | _ => false)
theorem snd_mup {x q v : X} (h : okMup P NG N o x q v = true) : Snd P NG B0 N C o (.mup x q v) := fun c _ fr s => by
  simp only [okMup, Bool.and_eq_true, Option.isNone_iff_eq_none] at h
  obtain ⟨hd, h⟩ := h
  obtain ⟨t, p, p', p2, e', h⟩ : ∃ t p p' p2, (∀ ρ, execOp ρ o = (do Instr.mapUpdate t (ρ p) (ρ p') (ρ p2); pure .skip)) ∧ (((xB NG N p x = true ∧ xB NG N p' q = true) ∧ xB NG N p2 v = true) ∧ mapB P t = true) := by
    split at h
    · rename_i t p p' p2 e'; exact ⟨t, p, p', p2, fun ρ => ex_mapUpdate e', by simpa only [Bool.and_eq_true] using h⟩
    · rename_i t p p' p2 e'; exact ⟨t, p, p', p2, fun ρ => ex_insert e', by simpa only [Bool.and_eq_true] using h⟩
    · cases h
  obtain ⟨⟨⟨hx, hq⟩, hv⟩, hm⟩ := h
  obtain ⟨kt, vt, kk, hu, hk⟩ := mapB_eq hm
  show Ct (hMup x q v c fr s) _
  unfold hMup
  refine Ct.onM fun b eb => Ct.onMp fun l hl => Ct.onI fun tq j eq => Ct.isU fun _ => ?_
  rcases hput : putL tq j (X.ev v fr) l with _ | m
  · exact Ct.bad
  refine Ct.fin (do_skip hd fun r w a hb hs hf => ?_)
  have h1 := xB_rel hx hb hf
  have h2 := xB_rel hq hb hf
  have h3 := xB_rel hv hb hf
  rw [eb] at h1
  rw [eq] at h2
  simp only [Rel] at h1 h2
  obtain ⟨_, _, es, cl, hh, hrm, hst⟩ := map_of hs hl
  rcases put_spec (kk := kk) h3 0 hput hrm with ⟨i, e, hhit, hm'⟩ | ⟨hmiss, hkeys, hm'⟩
  · obtain ⟨s1, s2⟩ := map_ok hs hl hh (es' := es.modify i fun e => { e with key := .int tq j, val := a.eval p2 }) (cl' := cl) (by rw [Array.toList_modify]; exact hm') (MapKept.stamped_modify hst i _ (fun _ _ => rfl) (fun e2 _ h2 => by
      have := hhit.1
      rw [Array.getElem?_toList, h2] at this
      cases this
      exact hhit.2.2.symm))
    refine ⟨_, r, ?_, s1, s2⟩
    rw [e', h1.2, h2]
    refine run_u ?_
    unfold Instr.mapUpdate
    have hkey : ((es[i]?).map (·.key)).getD (Value.int tq j) = .int tq j := by
      have := hhit.1
      rw [Array.getElem?_toList] at this
      rw [this]
      exact hhit.2.2
    simp only [Sem.run_bind, run_und hu, Result.andThen_ok, get_map hh, key_int hk, find_hit hk hhit, hkey, keyStays, set_map hh]
  · obtain ⟨s1, s2⟩ := map_ok hs hl hh (es' := es.push { key := .int tq j, val := a.eval p2, born := cl }) (cl' := cl + 1) (by rw [Array.toList_push]; exact hm' cl) (MapKept.stamped_push hst hkeys)
    refine ⟨_, r, ?_, s1, s2⟩
    rw [e', h1.2, h2]
    refine run_u ?_
    unfold Instr.mapUpdate
    simp only [Sem.run_bind, run_und hu, Result.andThen_ok, get_map hh, key_int hk, find_miss hk hmiss, set_map hh]
/-- A call of a builtin. -/
theorem ex_builtin {ρ : Operand → Value} {b : Builtin} {q : Call} (e : o.op = .call q) (hb : q.callee = .builtin b) (w : World) : (execOp ρ o).run P w = (builtin b q.argTypes o.type (q.args.map fun | .const _ => true | _ => false) (q.args.map ρ)).run P w := by
  rw [ex_call e]
  unfold resolve
  rw [hb]
  rfl
noncomputable def okDel (P : Program) (NG N : Nat) (o : Oper) (x q : X) (d : D) : Bool := dB o.dst d && (match o.op with
  | .call c => (match c.callee, c.args.toList, c.argTypes[0]? with | .builtin .delete, [p, p'], some t => xB NG N p x && xB NG N p' q && mapB P t | _, _, _ => false)
  | _ => false)
theorem snd_del {x q : X} {d : D} (h : okDel P NG N o x q d = true) : Snd P NG B0 N C o (.del x q d) := fun c _ fr s => by
  simp only [okDel, Bool.and_eq_true] at h
  obtain ⟨hd, h⟩ := h
  split at h
  case h_2 => cases h
  rename_i cl e'
  split at h
  case h_2 => cases h
  rename_i p p' t hc ha ht
  simp only [Bool.and_eq_true] at h
  obtain ⟨⟨hx, hq⟩, hm⟩ := h
  obtain ⟨kt, vt, kk, hu, hk⟩ := mapB_eq hm
  show Ct (hDel x q d c fr s) _
  unfold hDel
  refine Ct.onM fun b eb => Ct.onMp fun l hl => Ct.onI fun tq j eq => ?_
  rcases hdel : delL tq j l with _ | m
  · exact Ct.bad
  refine Ct.fin (do_val hd fun r w a hb hs hf => ?_)
  have h1 := xB_rel hx hb hf
  have h2 := xB_rel hq hb hf
  rw [eb] at h1
  rw [eq] at h2
  simp only [Rel] at h1 h2
  obtain ⟨_, _, es, clk, hh, hrm, hst⟩ := map_of hs hl
  have hargs : cl.args.map a.eval = #[a.eval p, a.eval p'] := by
    apply Array.toList_inj.1
    rw [Array.toList_map, ha]
    rfl
  rcases del_spec (kk := kk) 0 hdel hrm with ⟨i, e, hhit, hm'⟩ | ⟨hmiss, hm'⟩
  · obtain ⟨s1, s2⟩ := map_ok hs hl hh (es' := es.eraseIdxIfInBounds i) (cl' := clk) (by
      rw [Array.toList_eraseIdxIfInBounds]
      exact hm') (MapKept.stamped_erase hst i)
    refine ⟨.tuple #[], _, r, ?_, trivial, s1, s2⟩
    rw [ex_builtin e' hc, hargs, h1.2, h2]
    refine run_v ?_
    simp only [Builtin.delete_, ht, List.getElem?_toArray, List.getElem?_cons_zero, List.getElem?_cons_succ, Sem.run_bind, run_und hu, Result.andThen_ok, get_map hh, key_int hk, find_hit hk hhit, set_map hh, Sem.run_pure]
  · obtain ⟨s1, s2⟩ := map_ok hs hl hh (es' := es) (cl' := clk) hm' hst
    refine ⟨.tuple #[], _, r, ?_, trivial, s1, s2⟩
    rw [ex_builtin e' hc, hargs, h1.2, h2]
    refine run_v ?_
    simp only [Builtin.delete_, ht, List.getElem?_toArray, List.getElem?_cons_zero, List.getElem?_cons_succ, Sem.run_bind, run_und hu, Result.andThen_ok, get_map hh, key_int hk, find_miss hk hmiss, set_map hh, Sem.run_pure]
end
end Go.Proofs.YtenpbpgoglepfaaGreatDoor
namespace Go.Proofs.YtenpbpgoglepfaaGreatDoor
open Go.RowKit
set_option linter.unusedVariables false

section
variable {P : Program} {NG : Env} {B0 N : Nat} {C : CallE → Prop} {o : Oper} {E : Fr → St → Prop}
noncomputable def okLen (P : Program) (NG N : Nat) (o : Oper) (g : Nat) (x : X) (d : D) : Bool := dB o.dst d && (match o.op with
  | .call c => (match c.callee, c.args.toList, c.argTypes[0]? with
    | .builtin .len, [p], some t => xB NG N p x && (match P.underlying t, g with | some .string, 0 => true | some (.slice _), 1 => true | some (.map _ _), 2 => true | _, _ => false)
    | _, _, _ => false)
  | _ => false)
theorem args1 {cl : Call} {p : Operand} (a : Act) (ha : cl.args.toList = [p]) : cl.args.map a.eval = #[a.eval p] := by
  apply Array.toList_inj.1
  rw [Array.toList_map, ha]
  rfl
theorem args2 {cl : Call} {p p' : Operand} (a : Act) (ha : cl.args.toList = [p, p']) : cl.args.map a.eval = #[a.eval p, a.eval p'] := by
  apply Array.toList_inj.1
  rw [Array.toList_map, ha]
  rfl
theorem relM_len {r : Rho} : ∀ {es : List MapEntry} {l : AV}, RelM r l es → lenL l = 2 * es.length
  | [], l, h => by obtain rfl := relM_nil h; rfl
  | e :: es, l, h => by
    obtain ⟨k, v, m, rfl, _, _, h3⟩ := relM_cons h
    rw [lenL_cons, lenL_cons, relM_len h3, List.length_cons]
    omega
theorem snd_len {g : Nat} {x : X} {d : D} (h : okLen P NG N o g x d = true) : Snd P NG B0 N C o (.len g x d) := fun c _ fr s => by
  simp only [okLen, Bool.and_eq_true] at h
  obtain ⟨hd, h⟩ := h
  split at h
  case h_2 => cases h
  rename_i cl e'
  split at h
  case h_2 => cases h
  rename_i p t hc ha ht
  simp only [Bool.and_eq_true] at h
  obtain ⟨hx, h⟩ := h
  show Ct (hLen g x d c fr s) _
  unfold hLen
  split at h
  · rename_i hu
    refine Ct.onStr (f := fun l k => strictN l.length fun n => k (D.put d (.i .i64 (.ofNat n)) fr) s) fun l e => Ct.strictN (Ct.fin (do_pure hd fun r w a hb hs hf => ?_))
    have h1 := xB_rel hx hb hf
    rw [e] at h1
    obtain ⟨str, hv, hl⟩ := h1
    refine ⟨.int .i64 (l.length : Int), ?_, rfl⟩
    rw [ex_builtin e' hc, args1 a ha, hv]
    refine run_v ?_
    simp only [Builtin.len_, ht, List.getElem?_toArray, List.getElem?_cons_zero, Sem.run_bind, run_und hu, Result.andThen_ok, Sem.run_pure, goInt, str_size hl]
  · rename_i el hu
    refine Ct.isNs (f := fun k => AV.onS (X.ev x fr) .bad fun _ _ _ n _ _ => k (D.put d (.i .i64 (.ofNat n)) fr) s) (g := fun k => k (D.put d (.i .i64 (.ofNat 0)) fr) s) (fun _ => Ct.onS fun b q z n cp ex e => Ct.fin (do_pure hd fun r w a hb hs hf => ?_)) fun e => Ct.fin (do_pure hd fun r w a hb hs hf => ?_)
    · have h1 := xB_rel hx hb hf
      rw [e] at h1
      obtain ⟨_, x0, c0, hv, _⟩ := h1
      refine ⟨.int .i64 (n : Int), ?_, rfl⟩
      rw [ex_builtin e' hc, args1 a ha, hv]
      refine run_v ?_
      simp only [Builtin.len_, ht, List.getElem?_toArray, List.getElem?_cons_zero, Sem.run_bind, run_und hu, Result.andThen_ok, Sem.run_pure, goInt]
    · have h1 := xB_rel hx hb hf
      rw [e] at h1
      simp only [Rel] at h1
      refine ⟨.int .i64 0, ?_, rfl⟩
      rw [ex_builtin e' hc, args1 a ha, h1]
      refine run_v ?_
      simp only [Builtin.len_, ht, List.getElem?_toArray, List.getElem?_cons_zero, Sem.run_bind, run_und hu, Result.andThen_ok, Sem.run_pure, goInt]
      rfl
  · rename_i kt vt hu
    refine Ct.isNm (f := fun k => AV.onM (X.ev x fr) .bad fun b => GB.onMp (Hp.get s.h b) .bad fun l => strictN (Nat.div (lenL l) 2) fun n => k (D.put d (.i .i64 (.ofNat n)) fr) s) (g := fun k => k (D.put d (.i .i64 (.ofNat 0)) fr) s) (fun _ => Ct.onM fun b e => Ct.onMp fun l hl => Ct.strictN (Ct.fin (do_pure hd fun r w a hb hs hf => ?_))) fun e => Ct.fin (do_pure hd fun r w a hb hs hf => ?_)
    · have h1 := xB_rel hx hb hf
      rw [e] at h1
      simp only [Rel] at h1
      obtain ⟨_, _, es, ck, hh, hrm, _⟩ := map_of hs hl
      have hlen := relM_len hrm
      have e2 : Nat.div (lenL l) 2 = es.size := by
        show lenL l / 2 = es.size
        rw [hlen, Array.length_toList]
        omega
      refine ⟨.int .i64 (es.size : Int), ?_, by rw [e2]; rfl⟩
      rw [ex_builtin e' hc, args1 a ha, h1.2]
      refine run_v ?_
      simp only [Builtin.len_, ht, List.getElem?_toArray, List.getElem?_cons_zero, Sem.run_bind, run_und hu, Result.andThen_ok, get_map hh, Sem.run_pure, goInt]
    · have h1 := xB_rel hx hb hf
      rw [e] at h1
      simp only [Rel] at h1
      refine ⟨.int .i64 0, ?_, rfl⟩
      rw [ex_builtin e' hc, args1 a ha, h1]
      refine run_v ?_
      simp only [Builtin.len_, ht, List.getElem?_toArray, List.getElem?_cons_zero, Sem.run_bind, run_und hu, Result.andThen_ok, Sem.run_pure, goInt]
  · cases h
/-- An array's length is its type's. -/
noncomputable def okLenA (P : Program) (o : Oper) (n : Nat) (d : D) : Bool := dB o.dst d && (match o.op with
  | .call c => (match c.callee, c.args.toList, c.argTypes[0]? with
    | .builtin .len, [p], some t => (match P.underlying t with | some (.array n' _) => Nat.beq n' n | _ => false)
    | _, _, _ => false)
  | _ => false)
theorem snd_lenA {n : Nat} {d : D} (h : okLenA P o n d = true) : Snd P NG B0 N C o (.mov (.k (.i .i64 (.ofNat n))) d) := fun c _ fr s => by
  simp only [okLenA, Bool.and_eq_true] at h
  obtain ⟨hd, h⟩ := h
  split at h
  case h_2 => cases h
  rename_i cl e'
  split at h
  case h_2 => cases h
  rename_i p t hc ha ht
  split at h
  case h_2 => cases h
  rename_i n' el hu
  obtain rfl := Nat.eq_of_beq_eq_true h
  refine Ct.fin (do_pure hd fun r w a hb hs hf => ⟨.int .i64 (n' : Int), ?_, rfl⟩)
  rw [ex_builtin e' hc, args1 a ha]
  refine run_v ?_
  simp only [Builtin.len_, ht, List.getElem?_toArray, List.getElem?_cons_zero, Sem.run_bind, run_und hu, Result.andThen_ok, Sem.run_pure, goInt]
noncomputable def okCap (P : Program) (NG N : Nat) (o : Oper) (x : X) (d : D) : Bool := dB o.dst d && (match o.op with
  | .call c => (match c.callee, c.args.toList, c.argTypes[0]? with
    | .builtin .cap, [p], some t => xB NG N p x && (match P.underlying t with | some (.slice _) => true | _ => false)
    | _, _, _ => false)
  | _ => false)
theorem snd_cap {x : X} {d : D} (h : okCap P NG N o x d = true) : Snd P NG B0 N C o (.cap x d) := fun c _ fr s => by
  simp only [okCap, Bool.and_eq_true] at h
  obtain ⟨hd, h⟩ := h
  split at h
  case h_2 => cases h
  rename_i cl e'
  split at h
  case h_2 => cases h
  rename_i p t hc ha ht
  simp only [Bool.and_eq_true] at h
  obtain ⟨hx, h⟩ := h
  split at h
  case h_2 => cases h
  rename_i el hu
  show Ct (hCap x d c fr s) _
  unfold hCap
  generalize hv : X.ev x fr = v
  split
  · refine Ct.fin (do_pure hd fun r w a hb hs hf => ?_)
    have h1 := xB_rel hx hb hf
    rw [hv] at h1
    simp only [Rel] at h1
    refine ⟨.int .i64 0, ?_, rfl⟩
    rw [ex_builtin e' hc, args1 a ha, h1]
    refine run_v ?_
    simp only [Builtin.cap_, ht, List.getElem?_toArray, List.getElem?_cons_zero, Sem.run_bind, run_und hu, Result.andThen_ok, Sem.run_pure, goInt]
    rfl
  · rename_i b q z n cp
    refine Ct.fin (do_pure hd fun r w a hb hs hf => ?_)
    have h1 := xB_rel hx hb hf
    rw [hv] at h1
    obtain ⟨_, x0, c0, hv', _, _, hex, _⟩ := h1
    obtain rfl := hex rfl
    refine ⟨.int .i64 (c0 : Int), ?_, rfl⟩
    rw [ex_builtin e' hc, args1 a ha, hv']
    refine run_v ?_
    simp only [Builtin.cap_, ht, List.getElem?_toArray, List.getElem?_cons_zero, Sem.run_bind, run_und hu, Result.andThen_ok, Sem.run_pure, goInt]
  · exact Ct.bad
noncomputable def okMnx (NG N : Nat) (o : Oper) (g : Bool) (x y : X) (d : D) : Bool := dB o.dst d && (match o.op with
  | .call c => (match c.callee, c.args.toList, g with
    | .builtin .min, [p, p'], true => xB NG N p x && xB NG N p' y
    | .builtin .max, [p, p'], false => xB NG N p x && xB NG N p' y
    | _, _, _ => false)
  | _ => false)
theorem snd_mnx {g : Bool} {x y : X} {d : D} (h : okMnx NG N o g x y d = true) : Snd P NG B0 N C o (.mnx g x y d) := fun c _ fr s => by
  simp only [okMnx, Bool.and_eq_true] at h
  obtain ⟨hd, h⟩ := h
  split at h
  case h_2 => cases h
  rename_i cl e'
  show Ct (hMnx g x y d c fr s) _
  unfold hMnx
  refine Ct.onI fun t m e1 => Ct.onI fun t' n e2 => Ct.fin (do_pure hd fun r w a hb hs hf => ?_)
  split at h
  · rename_i p p' hc ha
    simp only [Bool.and_eq_true] at h
    have h1 := xB_rel h.1 hb hf
    have h2 := xB_rel h.2 hb hf
    rw [e1] at h1
    rw [e2] at h2
    simp only [Rel] at h1 h2
    refine ⟨.int t (if n < m then n else m), ?_, ?_⟩
    · rw [ex_builtin e' hc, args2 a ha, h1, h2]
      refine run_v ?_
      simp [Builtin.min_, Builtin.min2]
    · rw [ltI_eq]
      by_cases hlt : m < n
      · rw [decide_eq_true hlt, if_neg (by omega)]; rfl
      · rw [decide_eq_false hlt]
        show Rel r (.i t n) _
        by_cases hl2 : n < m
        · rw [if_pos hl2]; rfl
        · rw [if_neg hl2, show n = m by omega]; rfl
  · rename_i p p' hc ha
    simp only [Bool.and_eq_true] at h
    have h1 := xB_rel h.1 hb hf
    have h2 := xB_rel h.2 hb hf
    rw [e1] at h1
    rw [e2] at h2
    simp only [Rel] at h1 h2
    refine ⟨.int t (if n > m then n else m), ?_, ?_⟩
    · rw [ex_builtin e' hc, args2 a ha, h1, h2]
      refine run_v ?_
      simp [Builtin.max_, Builtin.max2]
    · rw [ltI_eq]
      by_cases hlt : m < n
      · rw [decide_eq_true hlt, if_pos (by omega)]; rfl
      · rw [decide_eq_false hlt, if_neg (by omega)]; rfl
  · cases h
end
end Go.Proofs.YtenpbpgoglepfaaGreatDoor
namespace Go.Proofs.YtenpbpgoglepfaaGreatDoor
open Go.RowKit
set_option linter.unusedVariables false

section
variable {P : Program} {NG : Env} {B0 N : Nat} {C : CallE → Prop} {o : Oper} {E : Fr → St → Prop}
/-- What is asked of an append's element type. -/
structure ElOk (P : Program) (t el z : Nat) (q : TypeInfo) (zv : Value) : Prop where
  hu : P.underlying t = some (.slice el)
  hq : P.info? el = some q
  hz : q.zero = some zv
  size : q.size = z
  zsize : zv.cells.size = z
  pos : 0 < z
  bytes : q.bytes ≤ 1000000
theorem zeroCells_size (z : Array Value) (k : Nat) : (Builtin.zeroCells z k).size = k * z.size := by simp [Builtin.zeroCells]
/-- Behind a growth: a new row. -/
theorem grown_ok {r : Rho} {s : St} {w : World} (hs : Sim B0 r s w) {el z m gc : Nat} {cells : AV} {vs : List Value} {zv : Value} (hr : RelL r cells vs) (hlen : vs.length = m * z) (hz : zv.cells.size = z) (hgc : m ≤ gc) :
    Sim B0 (r.push w.heap.size 0 (gc * z)) (s.new (Nat.mul m z) cells) (w.drew.alloc (.cells (vs.toArray ++ Builtin.zeroCells zv.cells (gc - m)) el)) ∧
      Stp r s w (r.push w.heap.size 0 (gc * z)) (s.new (Nat.mul m z) cells) (w.drew.alloc (.cells (vs.toArray ++ Builtin.zeroCells zv.cells (gc - m)) el)) ∧
      Rel (r.push w.heap.size 0 (gc * z)) (.s s.n 0 z m m false) (.slice (some ⟨w.heap.size, 0, none⟩) m gc) := by
  have hsz : (vs.toArray ++ Builtin.zeroCells zv.cells (gc - m)).size = gc * z := by
    rw [Array.size_append, zeroCells_size, hz, List.size_toArray, hlen, ← Nat.add_mul]
    congr 1
    omega
  have hc : Cells r (Cs.putL cells 0 (Cs.mk (Nat.mul m z))) 0 (vs.toArray ++ Builtin.zeroCells zv.cells (gc - m)) := by
    refine Cells.putL (cs := vs.toArray ++ Builtin.zeroCells zv.cells (gc - m)) Cells.mk hr (fun j hj => ?_) fun _ _ => rfl
    rw [Nat.zero_add, Array.getElem?_append_left (by rw [List.size_toArray]; exact hj), List.getElem?_toArray]
  have hd : Sim B0 r s w.drew := hs.same rfl
  obtain ⟨s1, s2⟩ := new_row hd el (0, 0) hc (.inl rfl)
  rw [hsz] at s1 s2
  have hst : Stp r s w r s w.drew := Stp.same rfl rfl rfl rfl
  exact ⟨s1, hst.trans s2, new_s hs (Nat.le_refl _) hgc (fun h => by cases h) (Nat.le_refl _)⟩
/-- What an append takes its elements from. -/
structure AppSrc (P : Program) (t tx ty el : Nat) (q : TypeInfo) (zv : Value) (x : Value) (n : Nat) (news : List Value) (w : World) : Prop where
  newsLen : news.length = n * q.size
  nothing : n = 0 → ∀ A sl sc, sl ≤ sc → (Builtin.append_ #[t, tx] ty #[.slice A sl sc, x]).run P w = .ok (.slice A sl sc) w
  room : 0 < n → ∀ b off sl sc, sl + n ≤ sc → (∀ j, j < news.length → (w.cell? ⟨b, off + sl * q.size + j, none⟩).isSome = true) → (∀ j, j < news.length → w.frozen? ⟨b, off + sl * q.size + j, none⟩ = false) →
    (Builtin.append_ #[t, tx] ty #[.slice (some ⟨b, off, none⟩) sl sc, x]).run P w = .ok (.slice (some ⟨b, off, none⟩) (sl + n) sc) (w.setCells b (off + sl * q.size) news)
  grow : 0 < n → ∀ base sl sc (olds : List Value), (Builtin.firstCells q.size sl (.slice base sl sc)).run P w.drew = .ok olds.toArray w.drew → sc < sl + n → ((sl + n : Nat) : Int) ≤ 9223372036854775807 → Builtin.nextslicecap (sl + n) sc * q.bytes ≤ 281474976710656 →
    (Builtin.append_ #[t, tx] ty #[.slice base sl sc, x]).run P w = .ok (.slice (some ⟨w.heap.size, 0, none⟩) (sl + n) (grownCap w (sl + n) sc el)) (w.drew.alloc (.cells ((olds ++ news).toArray ++ Builtin.zeroCells zv.cells (grownCap w (sl + n) sc el - (sl + n))) el))
theorem AppSrc.of {t tx ty el z : Nat} {q : TypeInfo} {zv : Value} (he : ElOk P t el z q zv) {x : Value} {n : Nat} {news : List Value} {w : World} (h : Src P z tx x n news w) : AppSrc P t tx ty el q zv x n news w := by
  obtain ⟨hu, hq, hz, hsize, hzs, hpos, hby⟩ := he
  subst hsize
  refine ⟨h.newsLen, fun h0 A sl sc hle => ?_, fun _ b off sl sc hr hc hf => run_append_room_src (P := P) w t tx ty el q hu hq b off sl sc x n news h hr hc hf, fun _ base sl sc olds hold hg h63 hfit => run_append_grow_src (P := P) w t tx ty el q zv hu hq hz base sl sc olds hold x n news h hg h63 hfit⟩
  subst h0
  have : news = [] := List.length_eq_zero_iff.1 (by rw [h.newsLen]; omega)
  subst this
  exact run_append_nothing w t tx ty el q hu hq A sl sc hle x h
theorem ct_app {t tx ty el z : Nat} {q : TypeInfo} {zv : Value} (he : ElOk P t el z q zv) {n : Nat} {l : AV} {x : X} {p p' : Operand} {d : D} {fr : Fr} {s : St} (hd : dB o.dst d = true) (hx : xB NG N p x = true)
    (hex : ∀ (a : Act) (w : World), (execOp a.eval o).run P w = (do pure (Next.value (← Builtin.append_ #[t, tx] ty #[a.eval p, a.eval p'])) : Sem Next).run P w)
    (hsrc : ∀ (r : Rho) (w : World) (a : Act), Base NG r → Sim B0 r s w → FrR N r fr a → ∃ news, AppSrc P t tx ty el q zv (a.eval p') n news w ∧ RelL r l news) :
    Ct (appE z (X.ev x fr) n l d fr s) (OpDo P NG B0 N o fr s) := by
  obtain ⟨hu, hq, hz, hsize, hzs, hpos, hby⟩ := he
  subst hsize
  unfold appE
  cases n with
  | zero =>
    show Ct (fun k => AV.isNs (X.ev x fr) (AV.onS (X.ev x fr) .bad fun _ _ z' _ _ _ => ifB (Nat.beq q.size z') (k (D.put d (X.ev x fr) fr) s) .bad) (k (D.put d .ns fr) s)) _
    refine Ct.isNs (f := fun k => AV.onS (X.ev x fr) .bad fun _ _ z' _ _ _ => ifB (Nat.beq q.size z') (k (D.put d (X.ev x fr) fr) s) .bad) (g := fun k => k (D.put d .ns fr) s) (fun _ => Ct.onS fun b o' z' len cap ex e => Ct.must fun _ => Ct.fin (do_pure hd fun r w a hb hs hf => ?_)) fun e => Ct.fin (do_pure hd fun r w a hb hs hf => ?_)
    · obtain ⟨news, h1, h2⟩ := hsrc r w a hb hs hf
      have : news = [] := List.length_eq_zero_iff.1 (by rw [h1.newsLen]; omega)
      subst this
      have hr := xB_rel hx hb hf
      rw [e] at hr ⊢
      obtain ⟨hbn, x0, c0, hv, hrest⟩ := hr
      refine ⟨a.eval p, ?_, by rw [hv]; exact ⟨hbn, x0, c0, rfl, hrest⟩⟩
      rw [hex, hv]
      refine run_v ?_
      exact h1.nothing rfl _ len c0 (by have := hrest.2.2.2.1; have := hrest.2.1; omega)
    · obtain ⟨news, h1, h2⟩ := hsrc r w a hb hs hf
      have : news = [] := List.length_eq_zero_iff.1 (by rw [h1.newsLen]; omega)
      subst this
      have hr := xB_rel hx hb hf
      rw [e] at hr
      simp only [Rel] at hr
      refine ⟨.slice none 0 0, ?_, rfl⟩
      rw [hex, hr]
      refine run_v ?_
      exact h1.nothing rfl _ 0 0 (Nat.le_refl _)
  | succ n =>
    refine Ct.isNs (fun _ => ?_) fun e => ?_
    · refine Ct.onS fun b o' z' len cap ex e => Ct.must fun hz' => Ct.ite (fun hroom => ?_) fun hroom => ?_
      · obtain rfl := Nat.eq_of_beq_eq_true hz'
        have hroom := Nat.le_of_ble_eq_true hroom
        refine Ct.onW fun cs hcs => Ct.must fun ha => Ct.strictN (Ct.fin (do_val hd fun r w a hb hs hf => ?_))
        obtain ⟨news, h1, h2⟩ := hsrc r w a hb hs hf
        have hr := xB_rel hx hb hf
        rw [e] at hr
        obtain ⟨hbn, x0, c0, hv, hx0, hcap, hexc, hlc, htot⟩ := hr
        have hx1 : x0 = r.off b + o' := hx0 (Nat.lt_of_lt_of_le (Nat.succ_pos _) hroom)
        have hnl := h1.newsLen
        obtain ⟨_, rcs, t', f', hh, hzz, hc, hfz⟩ := row_of hs (.inr hcs)
        obtain ⟨vs, v1, v2, v3⟩ := getL_rel hc _ _ ha
        have hroomc : ∀ j, j < news.length → ∃ v, rcs[r.off b + (o' + len * q.size) + j]? = some v := fun j hj => by
          obtain ⟨u, _, u2⟩ := v3 j (by rw [hnl] at hj; exact hj)
          exact ⟨u, u2⟩
        obtain ⟨s1, s2⟩ := put_ok hs hcs (q := Nat.add o' (Nat.mul len q.size)) h2 (fun j hj => by
          obtain ⟨v, hv⟩ := hroomc j hj
          exact ⟨_, _, _, v, hh, hv⟩)
        refine ⟨.slice (some ⟨r.blk b, x0, none⟩) (len + (n + 1)) c0, _, r, ?_, ⟨hbn, x0, c0, rfl, fun _ => hx1, hcap, hexc, ?_, htot⟩, s1, s2⟩
        · rw [hex, hv]
          refine run_v ?_
          have := h1.room (Nat.succ_pos n) (r.blk b) x0 len c0 (by have : len + (n + 1) ≤ cap := hroom; omega)
            (fun j hj => by
              obtain ⟨v, hv⟩ := hroomc j hj
              rw [cell_at hh, hx1, Nat.add_assoc (r.off b), hv]; rfl)
            (fun j hj => by
              obtain ⟨v, hv⟩ := hroomc j hj
              have hlt := (Array.getElem?_eq_some_iff.1 hv).1
              obtain ⟨lo, hi⟩ := f'
              simp only [World.frozen?, hh, Bool.and_eq_false_iff, decide_eq_false_iff_not]
              rw [hx1, Nat.add_assoc (r.off b)]
              rcases hfz with h | h
              · right; simp only at h; omega
              · left; simp only at h; omega)
          rw [this, hx1, Nat.add_assoc (r.off b)]
          rfl
        · exact hroom
      · obtain rfl := Nat.eq_of_beq_eq_true hz'
        have hroom : cap < len + (n + 1) := by
          rcases Nat.lt_or_ge cap (len + (n + 1)) with h | h
          · exact h
          · have : Nat.ble (len + (n + 1)) cap = true := Nat.ble_eq_true_of_le h
            rw [show Nat.ble (Nat.add len (n + 1)) cap = Nat.ble (len + (n + 1)) cap from rfl, this] at hroom
            cases hroom
        refine Ct.cellsS fun len' old hold => Ct.strictN (Ct.must fun hlim => ?_)
        have hlim := Nat.le_of_ble_eq_true hlim
        have hlim' : (len + (n + 1)) * q.size ≤ 4096 := hlim
        have hm4 : len + (n + 1) ≤ 4096 := by
          have := Nat.mul_le_mul_left (len + (n + 1)) hpos
          omega
        have hfit : (len + (n + 1)) * q.bytes ≤ 140737488355328 := by
          have := Nat.mul_le_mul hm4 hby
          omega
        -- what the machine has
        have common : ∀ (r : Rho) (w : World) (a : Act), Base NG r → Sim B0 r s w → FrR N r fr a → ∃ (x0 c0 : Nat) (olds news : List Value), a.eval p = .slice (some ⟨r.blk b, x0, none⟩) len c0 ∧ r.has b ∧ (0 < cap → x0 = r.off b + o') ∧ cap ≤ c0 ∧ (ex = true → c0 = cap) ∧ len ≤ cap ∧ x0 + c0 * q.size ≤ r.tot b ∧
            RelL r old olds ∧ olds.length = len * q.size ∧ (∀ j u, olds[j]? = some u → w.cell? ((⟨r.blk b, x0, none⟩ : Addr).add j) = some u) ∧ AppSrc P t tx ty el q zv (a.eval p') (n + 1) news w ∧ RelL r l news := fun r w a hb hs hf => by
          obtain ⟨news, h1, h2⟩ := hsrc r w a hb hs hf
          have hr := xB_rel hx hb hf
          have hrr := hr
          rw [e] at hr
          obtain ⟨hbn, x0, c0, hv, hx0, hcap, hexc, hlc, htot⟩ := hr
          obtain ⟨_, A, cc, olds, e1, e2, e3, e4, e5⟩ := cellsOf_rel hold hs hrr
          rw [hv] at e1
          cases e1
          exact ⟨x0, c0, olds, news, hv, hbn, hx0, hcap, hexc, hlc, htot, e2, e3, fun j u hj => by
            obtain ⟨y, y1, y2⟩ := e4 j u hj
            cases y1
            exact y2, h1, h2⟩
        have grows : ∀ (r : Rho) (w : World) (a : Act) (x0 c0 : Nat) (olds news : List Value), a.eval p = .slice (some ⟨r.blk b, x0, none⟩) len c0 → c0 < len + (n + 1) → olds.length = len * q.size → (∀ j u, olds[j]? = some u → w.cell? ((⟨r.blk b, x0, none⟩ : Addr).add j) = some u) → AppSrc P t tx ty el q zv (a.eval p') (n + 1) news w →
            (execOp a.eval o).run P w = .ok (.value (.slice (some ⟨w.heap.size, 0, none⟩) (len + (n + 1)) (grownCap w (len + (n + 1)) c0 el))) (w.drew.alloc (.cells ((olds ++ news).toArray ++ Builtin.zeroCells zv.cells (grownCap w (len + (n + 1)) c0 el - (len + (n + 1)))) el)) := fun r w a x0 c0 olds news hv hg hol hcell h1 => by
          rw [hex, hv]
          refine run_v ?_
          exact h1.grow (Nat.succ_pos n) _ len c0 olds (run_firstCells_some w.drew q.size len _ len c0 olds hol (by simpa using hcell)) hg (by omega) (growslice_fits hg hfit)
        refine Ct.ite (fun hext => ?_) fun hext => ?_
        · refine Ct.newB (Ct.fin (do_val hd fun r w a hb hs hf => ?_))
          obtain ⟨x0, c0, olds, news, hv, hbn, hx0, hcap, hexc, hlc, htot, hro, hol, hcell, h1, h2⟩ := common r w a hb hs hf
          obtain rfl := hexc hext
          obtain ⟨s1, s2, s3⟩ := grown_ok (el := el) hs (app_rel hro h2) (m := len + (n + 1)) (by rw [List.length_append, hol, h1.newsLen, ← Nat.add_mul]) hzs (grownCap_ge w (len + (n + 1)) c0 el)
          exact ⟨_, _, _, grows r w a x0 c0 olds news hv hroom hol hcell h1, s3, s1, s2⟩
        · refine Ct.onW fun cs hcs => Ct.newB (Ct.fin (do_val hd fun r w a hb hs hf => ?_))
          obtain ⟨x0, c0, olds, news, hv, hbn, hx0, hcap, hexc, hlc, htot, hro, hol, hcell, h1, h2⟩ := common r w a hb hs hf
          have hnl := h1.newsLen
          by_cases hg : c0 < len + (n + 1)
          · have hdrop := hs.drop b
            obtain ⟨s1, s2, s3⟩ := grown_ok (el := el) hdrop (app_rel hro h2) (m := len + (n + 1)) (by rw [List.length_append, hol, h1.newsLen, ← Nat.add_mul]) hzs (grownCap_ge w (len + (n + 1)) c0 el)
            refine ⟨_, _, _, grows r w a x0 c0 olds news hv hg hol hcell h1, s3, s1, Stp.trans ?_ s2⟩
            exact ⟨.refl r, rfl, rfl, rfl, Nat.le_refl _, fun _ _ _ => rfl, fun _ h => .inl h, fun b' hb' => by
              rcases live_put hb' with ⟨_, e⟩ | ⟨_, e⟩
              · rw [show Hp.get (St.mk (Hp.put s.h b .no) s.n).h b' = Hp.get (Hp.put s.h b .no) b' from rfl, e] at hb'; exact hb'.elim
              · exact .inl ⟨b', by rw [← e]; exact hb', rfl⟩⟩
          · obtain ⟨_, rcs, t', f', hh, hzz, hc, hfz⟩ := row_of hs (.inr hcs)
            have hg : len + (n + 1) ≤ c0 := by omega
            have hmz : (len + (n + 1)) * q.size ≤ c0 * q.size := Nat.mul_le_mul_right _ hg
            have hsum : len * q.size + (n + 1) * q.size = (len + (n + 1)) * q.size := (Nat.add_mul _ _ _).symm
            have hin : x0 + len * q.size + news.length ≤ rcs.size := by rw [hnl, hzz]; omega
            obtain ⟨cs', k1, k2, k3, k4, k5, k6, k7, k8, k9⟩ := setCells_at (r.blk b) t' f' news (x0 + len * q.size) w rcs hh hin
            have hlow : B0 ≤ r.blk b := hs.live_ge (b := b) (by rw [hcs]; exact trivial)
            obtain ⟨p1, p2, p3⟩ := r.push_at (r.blk b) x0 (r.tot b)
            have hle := r.le_push hs.lt (r.blk b) x0 (r.tot b)
            have hcells : Cells (r.push (r.blk b) x0 (r.tot b)) (Cs.putL (AV.app old l) 0 (Cs.mk (Nat.mul (Nat.add len (n + 1)) q.size))) x0 cs' := by
              refine Cells.putL (cs := cs') Cells.mk ((app_rel hro h2).le hle) (fun j hj => ?_) fun _ _ => rfl
              rw [List.length_append, hol, hnl] at hj
              rw [Nat.add_zero, List.getElem?_append]
              by_cases hj1 : j < olds.length
              · rw [if_pos hj1, k4 _ (by rw [hol] at hj1; omega)]
                have := hcell j _ (List.getElem?_eq_getElem hj1)
                rw [Addr.add_mid, cell_at hh] at this
                rw [this, List.getElem?_eq_getElem hj1]
              · rw [if_neg hj1, ← k3 (j - olds.length) (by rw [hnl]; omega)]
                congr 1
                omega
            obtain ⟨s1, s2⟩ := hs.moved b x0 (.rw (Cs.putL (AV.app old l) 0 (Cs.mk (Nat.mul (Nat.add len (n + 1)) q.size)))) (by rw [hcs]; exact trivial)
              ⟨⟨r.push_n _ _ _, cs', t', f', by rw [p1]; exact k1, by rw [p3, k2, hzz], by rw [p2]; exact hcells, by rw [k2]; exact hfz⟩, by rw [p1]; exact hlow⟩ k7 k8 k9 (by rw [k6]; exact Nat.le_refl _) (fun y _ hy => k5 y hy)
            refine ⟨.slice (some ⟨r.blk b, x0, none⟩) (len + (n + 1)) c0, _, _, ?_, ?_, s1, s2⟩
            · rw [hex, hv]
              refine run_v ?_
              exact h1.room (Nat.succ_pos n) (r.blk b) x0 len c0 hg
                (fun j hj => by
                  rw [cell_at hh, Array.getElem?_eq_getElem (by omega)]; rfl)
                (fun j hj => by
                  obtain ⟨lo, hi⟩ := f'
                  simp only [World.frozen?, hh, Bool.and_eq_false_iff, decide_eq_false_iff_not]
                  rcases hfz with h | h
                  · right; simp only at h; omega
                  · left; simp only at h; omega)
            · show Rel _ (.s s.n 0 q.size (len + (n + 1)) (len + (n + 1)) false) _
              rw [hs.n]
              exact ⟨r.push_n _ _ _, x0, c0, by rw [p1], fun _ => (by rw [p2]; rfl), hg, (fun h => by cases h), Nat.le_refl _, (by rw [p3]; exact htot)⟩
    · refine Ct.must fun hlim => Ct.newB (Ct.fin (do_val hd fun r w a hb hs hf => ?_))
      have hlim := Nat.le_of_ble_eq_true hlim
      have hlim' : (n + 1) * q.size ≤ 4096 := hlim
      have hm4 : n + 1 ≤ 4096 := by
        have := Nat.mul_le_mul_left (n + 1) hpos
        omega
      have hfit : (0 + (n + 1)) * q.bytes ≤ 140737488355328 := by
        have := Nat.mul_le_mul hm4 hby
        rw [Nat.zero_add]
        omega
      obtain ⟨news, h1, h2⟩ := hsrc r w a hb hs hf
      have hr := xB_rel hx hb hf
      rw [e] at hr
      have hv : a.eval p = .slice none 0 0 := hr
      obtain ⟨s1, s2, s3⟩ := grown_ok (el := el) hs h2 (m := n + 1) h1.newsLen hzs (grownCap_ge w (n + 1) 0 el)
      refine ⟨_, _, _, ?_, s3, s1, s2⟩
      rw [hex, hv]
      refine run_v ?_
      have := h1.grow (Nat.succ_pos n) none 0 0 [] (run_firstCells_none w.drew q.size 0 0 0) (by omega) (by omega) (growslice_fits (by omega) hfit)
      rw [Nat.zero_add] at this
      exact this
end
end Go.Proofs.YtenpbpgoglepfaaGreatDoor
namespace Go.Proofs.YtenpbpgoglepfaaGreatDoor
open Go.RowKit
set_option linter.unusedVariables false

section
variable {P : Program} {NG : Env} {B0 N : Nat} {C : CallE → Prop} {o : Oper} {E : Fr → St → Prop}
/-- An append's element type. -/
noncomputable def elB (P : Program) (t z : Nat) : Bool := match P.underlying t with
  | some (.slice el) => (match P.info? el with | some q => (match q.zero with | some v => Nat.beq q.size z && Nat.beq v.cells.size z && Nat.blt 0 z && Nat.ble q.bytes 1000000 | none => false) | none => false)
  | _ => false
theorem elB_ok {t z : Nat} (h : elB P t z = true) : ∃ el q v, ElOk P t el z q v := by
  unfold elB at h
  split at h
  · rename_i el hu
    split at h
    · rename_i q hq
      split at h
      · rename_i v hv
        simp only [Bool.and_eq_true] at h
        exact ⟨el, q, v, hu, hq, hv, Nat.eq_of_beq_eq_true h.1.1.1, Nat.eq_of_beq_eq_true h.1.1.2, blt_lt h.1.2, Nat.le_of_ble_eq_true h.2⟩
      · cases h
    · cases h
  · cases h
theorem ex_append {cl : Call} {p p' : Operand} {t tx : TypeId} (e' : o.op = .call cl) (hc : cl.callee = .builtin .append) (ha : cl.args.toList = [p, p']) (ht : cl.argTypes.toList = [t, tx]) (a : Act) (w : World) :
    (execOp a.eval o).run P w = (do pure (Next.value (← Builtin.append_ #[t, tx] o.type #[a.eval p, a.eval p'])) : Sem Next).run P w := by
  have h2 : cl.argTypes = #[t, tx] := Array.toList_inj.1 ht
  rw [ex_builtin e' hc, args2 a ha, h2]
  rfl
noncomputable def okApp (P : Program) (NG N : Nat) (o : Oper) (z : Nat) (x y : X) (d : D) : Bool := dB o.dst d && (match o.op with
  | .call c => (match c.callee, c.args.toList, c.argTypes.toList with
    | .builtin .append, [p, p'], [t, tx] => xB NG N p x && xB NG N p' y && elB P t z && (match P.underlying tx with | some (.slice _) => true | _ => false)
    | _, _, _ => false)
  | _ => false)
theorem snd_app {z : Nat} {x y : X} {d : D} (h : okApp P NG N o z x y d = true) : Snd P NG B0 N C o (.app z x y d) := fun c _ fr s => by
  simp only [okApp, Bool.and_eq_true] at h
  obtain ⟨hd, h⟩ := h
  split at h
  case h_2 => cases h
  rename_i cl e'
  split at h
  case h_2 => cases h
  rename_i p p' t tx hc ha ht
  simp only [Bool.and_eq_true] at h
  obtain ⟨⟨⟨hx, hy⟩, hel⟩, h⟩ := h
  obtain ⟨el, q, v, hel⟩ := elB_ok hel
  split at h
  case h_2 => cases h
  rename_i el' hk
  show Ct (hApp z x y d c fr s) _
  unfold hApp
  refine Ct.cellsS fun n l hl => ct_app hel hd hx (ex_append e' hc ha ht) fun r w a hb hs hf => ?_
  obtain ⟨hone, A, cc, vs, e1, e2, e3, e4, e5⟩ := cellsOf_rel hl hs (xB_rel hy hb hf)
  refine ⟨vs, AppSrc.of hel ?_, e2⟩
  rw [e1]
  cases A with
  | none =>
    have : n = 0 := by
      rcases Nat.eq_zero_or_pos n with h | h
      · exact h
      · exact absurd rfl (e5 h)
    subst this
    have : vs = [] := List.length_eq_zero_iff.1 (by rw [e3]; omega)
    subst this
    exact Src.ofNil w hk cc
  | some y => exact Src.ofSlice w hk y n cc vs e3 (fun j u hj => by
      obtain ⟨y', h1, h2⟩ := e4 j u hj
      cases h1
      exact h2) (ones_rel hone e2)
noncomputable def okAps (P : Program) (NG N : Nat) (o : Oper) (x y : X) (d : D) : Bool := dB o.dst d && (match o.op with
  | .call c => (match c.callee, c.args.toList, c.argTypes.toList with
    | .builtin .append, [p, p'], [t, tx] => xB NG N p x && xB NG N p' y && elB P t 1 && (match P.underlying tx with | some .string => true | _ => false)
    | _, _, _ => false)
  | _ => false)
theorem snd_aps {x y : X} {d : D} (h : okAps P NG N o x y d = true) : Snd P NG B0 N C o (.aps x y d) := fun c _ fr s => by
  simp only [okAps, Bool.and_eq_true] at h
  obtain ⟨hd, h⟩ := h
  split at h
  case h_2 => cases h
  rename_i cl e'
  split at h
  case h_2 => cases h
  rename_i p p' t tx hc ha ht
  simp only [Bool.and_eq_true] at h
  obtain ⟨⟨⟨hx, hy⟩, hel⟩, h⟩ := h
  obtain ⟨el, q, v, hel⟩ := elB_ok hel
  split at h
  case h_2 => cases h
  rename_i hk
  show Ct (hAps x y d c fr s) _
  unfold hAps
  refine Ct.onStr fun l e => ct_app hel hd hx (ex_append e' hc ha ht) fun r w a hb hs hf => ?_
  have hr := xB_rel hy hb hf
  rw [e] at hr
  obtain ⟨str, hv, hl⟩ := hr
  refine ⟨byteCells str, AppSrc.of hel ?_, ?_⟩
  · rw [hv, ← str_size hl]; exact Src.ofString w hk str
  · exact natsL_rel l str.data.toList hl
/-- Copies. -/
theorem Ct.lenS {x : AV} {f : Nat → K → R} (h : ∀ n, (x = .ns ∧ n = 0) ∨ (∃ b q z cp ex, x = .s b q z n cp ex) → Ct (f n) E) : Ct (fun k => Go.Proofs.YtenpbpgoglepfaaGreatDoor.lenS x fun n => f n k) E :=
  Ct.isNs (f := fun k => AV.onS x .bad fun _ _ _ n _ _ => f n k) (g := f 0) (fun _ => Ct.onS fun b q z n cp ex e => h n (.inr ⟨b, q, z, cp, ex, e⟩)) fun e => h 0 (.inl ⟨e, rfl⟩)
theorem minN_eq (a b : Nat) : minN a b = Nat.min a b := by
  unfold minN
  rcases h : Nat.ble a b with _ | _
  · have : ¬ a ≤ b := fun e => by rw [Nat.ble_eq_true_of_le e] at h; cases h
    show b = min a b
    omega
  · have := Nat.le_of_ble_eq_true h
    show a = min a b
    omega
/-- Cells laid over a slice's first elements: what the state becomes, and that the machine can store them. -/
theorem Ct.overS {z : Nat} {x : AV} {n : Nat} {l : AV} {s : St} {f : St → K → R} (h0 : n = 0 → Ct (f s) E)
    (h : ∀ b q len cp ex cs, 0 < n → x = .s b q z len cp ex → Hp.get s.h b = .rw cs → allOne (Cs.getL cs (n * z) q) = true → Ct (f (.mk (Hp.put s.h b (.rw (Cs.putL l q cs))) s.n)) E) :
    Ct (fun k => Go.Proofs.YtenpbpgoglepfaaGreatDoor.overS z x n l s fun s => f s k) E := by
  unfold Go.Proofs.YtenpbpgoglepfaaGreatDoor.overS
  cases n with
  | zero => exact h0 rfl
  | succ n =>
    refine Ct.onS (f := fun b o z' _ _ _ k => ifB (Nat.beq z z') (GB.onW (Hp.get s.h b) .bad fun cs => ifB (allOne (Cs.getL cs (Nat.mul (n + 1) z) o)) (f (.mk (Hp.put s.h b (.rw (Cs.putL l o cs))) s.n) k) .bad) .bad) fun b q z' len cp ex e => Ct.must fun hz => Ct.onW fun cs hcs => Ct.must fun ha => ?_
    obtain rfl := Nat.eq_of_beq_eq_true hz
    exact h b q len cp ex cs (Nat.succ_pos n) e hcs ha
noncomputable def okCpy (P : Program) (NG N : Nat) (o : Oper) (z : Nat) (x y : X) (d : D) : Bool := dB o.dst d && (match o.op with
  | .call c => (match c.callee, c.args.toList, c.argTypes[0]? with
    | .builtin .copy, [p, p'], some t => xB NG N p x && xB NG N p' y && elB P t z
    | _, _, _ => false)
  | _ => false)
theorem snd_cpy {z : Nat} {x y : X} {d : D} (h : okCpy P NG N o z x y d = true) : Snd P NG B0 N C o (.cpy z x y d) := fun c _ fr s => by
  simp only [okCpy, Bool.and_eq_true] at h
  obtain ⟨hd, h⟩ := h
  split at h
  case h_2 => cases h
  rename_i cl e'
  split at h
  case h_2 => cases h
  rename_i p p' t hc ha ht
  simp only [Bool.and_eq_true] at h
  obtain ⟨⟨hx, hy⟩, hel⟩ := h
  obtain ⟨el, q, v, hu, hq, hz, hsize, hzs, hpos, hby⟩ := elB_ok hel
  have hsz : (P.info? el).map (·.size) = some z := by rw [hq, ← hsize]; rfl
  show Ct (hCpy z x y d c fr s) _
  unfold hCpy
  refine Ct.cellsS fun n l hl => Ct.lenS fun m hm => Ct.strictN ?_
  rw [minN_eq]
  -- what the machine does
  have run : ∀ (a : Act) (w w' : World) (A : Option Addr) (cc : Nat) (B : Option Addr) (cd : Nat) (vs : List Value), a.eval p' = .slice A n cc → a.eval p = .slice B m cd → (Builtin.firstCells z (Nat.min n m) (.slice A n cc)).run P w = .ok vs.toArray w →
      (∀ y, B = some y → (storeCells y vs).run P w = .ok () w') → (B = none → w' = w) → (execOp a.eval o).run P w = .ok (.value (.int .i64 (Nat.min n m : Nat))) w' := fun a w w' A cc B cd vs h1 h2 h3 h4 h5 => by
    rw [ex_builtin e' hc, args2 a ha, h1, h2]
    refine run_v ?_
    simp only [Builtin.copy_, ht, List.getElem?_toArray, List.getElem?_cons_zero, List.getElem?_cons_succ, Sem.run_bind, run_und hu, Result.andThen_ok, Builtin.lenOf, Sem.run_pure, run_size hsz, h3, goInt]
    cases B with
    | none =>
      rw [h5 rfl]
      simp only [Sem.run_pure]
    | some y =>
      have := h4 y rfl
      simp only [Sem.run_bind, this, Result.andThen_ok, Sem.run_pure]
  have first : ∀ (r : Rho) (w : World) (a : Act), Base NG r → Sim B0 r s w → FrR N r fr a → ∃ (A : Option Addr) (cc : Nat) (vs : List Value), a.eval p' = .slice A n cc ∧ RelL r (takeL l (Nat.mul (Nat.min n m) z)) vs ∧ vs.length = Nat.min n m * z ∧ (Builtin.firstCells z (Nat.min n m) (.slice A n cc)).run P w = .ok vs.toArray w ∧ ∀ v ∈ vs, v.oneCell' = true := fun r w a hb hs hf => by
    obtain ⟨hone, A, cc, vs, e1, e2, e3, e4, e5⟩ := cellsOf_rel hl hs (xB_rel hy hb hf)
    have hle : Nat.min n m * z ≤ n * z := Nat.mul_le_mul_right z (Nat.min_le_left n m)
    have hlen : (vs.take (Nat.min n m * z)).length = Nat.min n m * z := by rw [List.length_take, e3]; omega
    refine ⟨A, cc, vs.take (Nat.min n m * z), e1, takeL_rel _ e2, hlen, ?_, fun v hv => ones_rel hone e2 v (List.mem_of_mem_take hv)⟩
    cases A with
    | none =>
      have : n = 0 := by
        rcases Nat.eq_zero_or_pos n with h | h
        · exact h
        · exact absurd rfl (e5 h)
      subst this
      have : vs = [] := List.length_eq_zero_iff.1 (by rw [e3]; omega)
      subst this
      rw [List.take_nil]
      exact run_firstCells_none w z _ 0 cc
    | some y =>
      refine run_firstCells_some w z (Nat.min n m) y n cc _ hlen fun j u hj => ?_
      have hj' : vs[j]? = some u := by
        have hlt := (List.getElem?_eq_some_iff.1 hj).1
        rw [hlen] at hlt
        rwa [List.getElem?_take_of_lt hlt] at hj
      obtain ⟨y', h1, h2⟩ := e4 j u hj'
      cases h1
      exact h2
  refine Ct.overS (fun h0 => ?_) fun b qo len cp ex cs hpos' hxe hcs hall => ?_
  · refine Ct.fin (do_pure hd fun r w a hb hs hf => ?_)
    obtain ⟨A, cc, vs, e1, e2, e3, e4, e5⟩ := first r w a hb hs hf
    have : vs = [] := List.length_eq_zero_iff.1 (by rw [e3, h0]; omega)
    subst this
    have hr := xB_rel hx hb hf
    have hB : ∃ B cd, a.eval p = .slice B m cd := by
      rcases hm with ⟨e, rfl⟩ | ⟨b, q', z', cp, ex, e⟩
      · rw [e] at hr; exact ⟨none, 0, hr⟩
      · rw [e] at hr; obtain ⟨_, x0, c0, hv, _⟩ := hr; exact ⟨_, c0, hv⟩
    obtain ⟨B, cd, hB⟩ := hB
    exact ⟨_, run a w w A cc B cd [] e1 hB e4 (fun y _ => rfl) (fun _ => rfl), rfl⟩
  · refine Ct.fin (do_val hd fun r w a hb hs hf => ?_)
    obtain ⟨A, cc, vs, e1, e2, e3, e4, e5⟩ := first r w a hb hs hf
    have hr := xB_rel hx hb hf
    rw [hxe] at hr
    obtain ⟨hbn, x0, c0, hv, hx0, hcap, hexc, hlc, htot⟩ := hr
    have hlm : len = m := by
      rcases hm with ⟨e, _⟩ | ⟨b', q', z', cp', ex', e⟩
      · rw [e] at hxe; cases hxe
      · rw [e] at hxe; cases hxe; rfl
    subst hlm
    have hx1 : x0 = r.off b + qo := hx0 (by have : Nat.min n len ≤ len := Nat.min_le_right n len; omega)
    obtain ⟨_, rcs, t', f', hh, hzz, hcc, hfz⟩ := row_of hs (.inr hcs)
    obtain ⟨us, v1, v2, v3⟩ := getL_rel hcc _ qo hall
    have hroom : ∀ j, j < vs.length → ∃ v, rcs[r.off b + qo + j]? = some v := fun j hj => by
      obtain ⟨u, _, u2⟩ := v3 j (by rw [← e3]; exact hj)
      exact ⟨u, u2⟩
    obtain ⟨s1, s2⟩ := put_ok hs hcs (q := qo) e2 (fun j hj => by
      obtain ⟨v, hv⟩ := hroom j hj
      exact ⟨_, _, _, v, hh, hv⟩)
    refine ⟨_, _, r, run a w _ A cc _ c0 vs e1 hv e4 (fun y hy' => ?_) (fun h => by cases h), rfl, s1, s2⟩
    cases hy'
    rw [hx1]
    exact run_put hh hfz hroom e5
end
end Go.Proofs.YtenpbpgoglepfaaGreatDoor
namespace Go.Proofs.YtenpbpgoglepfaaGreatDoor
open Go.RowKit
set_option linter.unusedVariables false

/-- A call of a function of the program, or of one whose word is a row of the model's: it answers. -/
def CallsF (P : Program) (g : FuncId) (args : Array Value) (w : World) (R : Value → World → Prop) : Prop :=
  ((callFunc g args).run P w = .ok (.enter g args) w ∧ Calls P g args w (fun e w' => ∃ v, e = .returned v ∧ R v w')) ∨ ∃ v w', (callFunc g args).run P w = .ok (.value v) w' ∧ R v w'
section
variable {P : Program} {NG : Env} {B0 N : Nat} {o : Oper} {E : Fr → St → Prop}
/-- What is known of the calls. -/
def COk (P : Program) (NG : Env) (B0 : Nat) (c : CallE) : Prop := ∀ g ar s v s', g < yN → c g ar s = .ok v s' → ∀ (r : Rho) (w : World) (args : Array Value), Base NG r → Sim B0 r s w → RelL r ar args.toList →
  CallsF P g args w fun x w' => ∃ r', Rel r' v x ∧ Sim B0 r' s' w' ∧ Stp r s w r' s' w'
theorem do_call {d : D} (hd : dB o.dst d = true) {fr : Fr} {s s' : St} {v : AV}
    (h : ∀ (r : Rho) (w : World) (a : Act), Base NG r → Sim B0 r s w → FrR N r fr a → ∃ g args, (execOp a.eval o).run P w = (callFunc g args).run P w ∧ CallsF P g args w fun x w' => ∃ r', Rel r' v x ∧ Sim B0 r' s' w' ∧ Stp r s w r' s' w') :
    OpDo P NG B0 N o fr s (D.put d v fr) s' := fun r w a hb hs hf Q K hK => by
  obtain ⟨g, args, e, hc⟩ := h r w a hb hs hf
  unfold Oper.wp
  rw [e]
  rcases hc with ⟨e1, hc⟩ | ⟨x, w', e1, r', h1, h2, h3⟩
  · rw [e1, Oper.upon_enter]
    refine hc.mono fun e w' => ?_
    rintro ⟨x, rfl, r', h1, h2, h3⟩
    exact hK _ _ r' h2 h3 ((hf.le h3.le).put hd h1) (put_dfr _ _ _)
  · rw [e1]
    exact hK _ _ r' h2 h3 ((hf.le h3.le).put hd h1) (put_dfr _ _ _)
theorem Ct.onRC {x : RC} {f : AV → St → K → R} (h : ∀ v s, x = .ok v s → Ct (f v s) E) : Ct (fun k => Go.Proofs.YtenpbpgoglepfaaGreatDoor.onRC x fun v s => f v s k) E := by
  cases x with
  | bad => exact Ct.bad
  | ok v s => exact h v s rfl
noncomputable def okCall (NG N : Nat) (o : Oper) (g : Nat) (as_ : List X) (d : D) : Bool := dB o.dst d && (match o.op with
  | .call c => (match c.callee with | .value (.func f) => Nat.beq f g && Nat.blt g yN && xsB NG N c.args.toList as_ | _ => false)
  | _ => false)
theorem snd_call {g : Nat} {as_ : List X} {d : D} (h : okCall NG N o g as_ d = true) : Snd P NG B0 N (COk P NG B0) o (.call g as_ d) := fun c hc fr s => by
  simp only [okCall, Bool.and_eq_true] at h
  obtain ⟨hd, h⟩ := h
  split at h
  case h_2 => cases h
  rename_i cl e'
  split at h
  case h_2 => cases h
  rename_i f hcl
  simp only [Bool.and_eq_true] at h
  obtain rfl := Nat.eq_of_beq_eq_true h.1.1
  have hlt : f < yN := by have := h.1.2; rwa [blt_eq, decide_eq_true_iff] at this
  show Ct (hCall f as_ d c fr s) _
  unfold hCall
  refine Ct.onRC fun v s' e => Ct.fin (do_call hd fun r w a hb hs hf => ⟨f, cl.args.map a.eval, ?_, ?_⟩)
  · rw [ex_call e']
    unfold resolve
    rw [hcl]
    show (callFunc f ((#[] ++ cl.args.map a.eval) ++ #[])).run P w = _
    rw [Array.append_empty, Array.empty_append]
  · exact hc _ _ _ _ _ hlt e r w _ hb hs (by rw [Array.toList_map]; exact xsB_rel hb hf h.2)
noncomputable def okCald (NG N : Nat) (o : Oper) (x : X) (as_ : List X) (d : D) : Bool := dB o.dst d && (match o.op with
  | .call c => (match c.callee with | .value p => xB NG N p x && xsB NG N c.args.toList as_ | _ => false)
  | _ => false)
theorem snd_cald {x : X} {as_ : List X} {d : D} (h : okCald NG N o x as_ d = true) : Snd P NG B0 N (COk P NG B0) o (.cald x as_ d) := fun c hc fr s => by
  simp only [okCald, Bool.and_eq_true] at h
  obtain ⟨hd, h⟩ := h
  split at h
  case h_2 => cases h
  rename_i cl e'
  split at h
  case h_2 => cases h
  rename_i p hcl
  simp only [Bool.and_eq_true] at h
  show Ct (hCald x as_ d c fr s) _
  unfold hCald
  refine Ct.onF fun g fs cs ex => Ct.must fun hlt => Ct.onRC fun v s' e => Ct.fin (do_call hd fun r w a hb hs hf => ?_)
  have hr := xB_rel h.1 hb hf
  rw [ex] at hr
  obtain ⟨first, cap, hv, h1, h2⟩ := hr
  refine ⟨g, (first ++ cl.args.map a.eval) ++ cap, ?_, ?_⟩
  · rw [ex_call e']
    unfold resolve
    rw [hcl]
    show (do let d ← Deferred.ofValue (a.eval p) (cl.args.map a.eval); invoke d.target d.args : Sem Next).run P w = _
    rw [hv]
    rfl
  · refine hc _ _ _ _ _ (by rwa [blt_eq, decide_eq_true_iff] at hlt) e r w _ hb hs ?_
    rw [Array.toList_append, Array.toList_append, List.append_assoc, Array.toList_map]
    exact app_rel h1 (app_rel (xsB_rel hb hf h.2) h2)
/-- The methods that are told: type, name, function. -/
abbrev Mt := List (Nat × String × Nat)
def MtOk (P : Program) (mt : Mt) : Prop := ∀ t n g, (t, n, g) ∈ mt → ∀ v w, (Go.method (P.types.size + Made.depth) t v n).run P w = .ok (g, v) w
noncomputable def okInv (NG N : Nat) (mt : Mt) (o : Oper) (tb : List (Nat × Nat)) (x : X) (as_ : List X) (d : D) : Bool := dB o.dst d && (match o.op with
  | .call c => (match c.callee with | .invoke p n => xB NG N p x && xsB NG N c.args.toList as_ && tb.all (fun q => mt.contains (q.1, n, q.2) && Nat.blt q.2 yN) | _ => false)
  | _ => false)
theorem findT_mem {t g : Nat} : ∀ {tb : List (Nat × Nat)}, findT t tb = some g → (t, g) ∈ tb
  | [], h => by cases h
  | (a, b) :: l, h => by
    unfold findT at h
    split at h
    · rename_i e
      cases h
      obtain rfl := beq_iff_eq.1 e
      simp
    · exact List.mem_cons_of_mem _ (findT_mem h)
theorem snd_inv {mt : Mt} (hmt : MtOk P mt) {tb : List (Nat × Nat)} {x : X} {as_ : List X} {d : D} (h : okInv NG N mt o tb x as_ d = true) : Snd P NG B0 N (COk P NG B0) o (.inv tb x as_ d) := fun c hc fr s => by
  simp only [okInv, Bool.and_eq_true] at h
  obtain ⟨hd, h⟩ := h
  split at h
  case h_2 => cases h
  rename_i cl e'
  split at h
  case h_2 => cases h
  rename_i p n hcl
  simp only [Bool.and_eq_true] at h
  obtain ⟨⟨hx, has⟩, htb⟩ := h
  show Ct (hInv tb x as_ d c fr s) _
  unfold hInv
  refine Ct.onIfc fun t v ex => ?_
  rcases hg : findT t tb with _ | g
  · exact Ct.bad
  refine Ct.onRC fun v' s' e => Ct.fin (do_call hd fun r w a hb hs hf => ?_)
  have hr := xB_rel hx hb hf
  rw [ex] at hr
  obtain ⟨y, hv, h1⟩ := hr
  have hmem : (t, n, g) ∈ mt := by
    have := List.all_eq_true.1 htb _ (findT_mem hg)
    simp only [Bool.and_eq_true, blt_eq, decide_eq_true_iff] at this
    simpa using this.1
  have hlt : g < yN := by
    have := List.all_eq_true.1 htb _ (findT_mem hg)
    simp only [Bool.and_eq_true, blt_eq, decide_eq_true_iff] at this
    exact this.2
  refine ⟨g, #[y] ++ cl.args.map a.eval, ?_, ?_⟩
  · rw [ex_call e']
    unfold resolve
    rw [hcl]
    show (invoke (.fn (.method n) #[]) (#[a.eval p] ++ cl.args.map a.eval)).run P w = _
    rw [hv]
    have e0 : (#[Value.iface t y] ++ cl.args.map a.eval)[0]? = some (.iface t y) := by rw [Array.getElem?_append_left (by simp)]; rfl
    have e1 : (#[Value.iface t y] ++ cl.args.map a.eval).extract 1 (#[Value.iface t y] ++ cl.args.map a.eval).size = cl.args.map a.eval := by
      apply Array.toList_inj.1
      simp
      exact List.take_of_length_le (by simp)
    unfold invoke
    simp only [e0, e1, callMethod, Sem.run_bind, run_program, Result.andThen_ok, hmt t n g hmem]
  · refine hc _ _ _ _ _ hlt e r w _ hb hs ?_
    rw [Array.toList_append, Array.toList_map]
    exact ⟨y, _, rfl, h1, xsB_rel hb hf has⟩
end
end Go.Proofs.YtenpbpgoglepfaaGreatDoor
namespace Go.Proofs.YtenpbpgoglepfaaGreatDoor
open Go.RowKit
set_option linter.unusedVariables false

/-- The fence that asks nothing; in a round of the loop ro. -/
def Wd (ro : Option Nat) : Fence := { fn := fun _ => True, depth := none, alive := false, round := ro }
theorem callsIn_wd {ro : Option Nat} {n : Nat} {P : Program} {f : FuncId} {args : Array Value} {w : World} {R : Ending → World → Prop} (h : Calls P f args w R) : CallsIn (Wd ro) n P f args w R := (callsIn_wide (n := n)).2 h
theorem rowsIn_wd {ro : Option Nat} {n : Nat} {P : Program} {row : String} {args : Array Value} {w : World} {R : Value → World → Prop} (h : Rows P row args w R) : RowsIn (Wd ro) n P row args w R := fun c cs _ => by
  obtain ⟨v, w', r, s⟩ := h c cs
  exact ⟨v, w', r, stepsIn_wide.2 s⟩
theorem oper_in {ro : Option Nat} {n : Nat} {P : Program} {o : Oper} {a : Act} {w : World} {K : Act → World → Prop} {Q : Exit → Act → World → Prop} (hd : ∀ c, o.op ≠ .defer c) (h : o.wp P a w K Q) : o.wpIn (Wd ro) n P a w K Q := by
  refine ⟨fun _ _ => trivial, ?_⟩
  rw [show (Wd ro).round = ro from rfl, Oper.semAt_eq ro a.eval o hd]
  unfold Oper.wp at h
  generalize (execOp a.eval o).run P w = x at h ⊢
  cases x with
  | ok n' w' =>
    cases n' <;> simp only [Oper.upon] at h <;> simp only [Oper.uponIn] <;>
      first
        | exact h
        | exact ⟨fun e => (by cases e), callsIn_wd h⟩
        | exact ⟨fun e => (by cases e), rowsIn_wd h⟩
        | exact h.elim
  | halt x w' => cases x <;> simp only [Oper.upon] at h <;> simp only [Oper.uponIn] <;> first | exact h | exact h.elim
/-- The deferred calls of an activation are blocks that loops over functions have left (from block lo on): empty ones, of nobody. -/
structure DfOk (lo : Nat) (r : Rho) (s : St) (w : World) (l : List Deferred) : Prop where
  hlo : lo ≤ w.heap.size
  all : ∀ d ∈ l, ∃ D, d = { target := .collected D, args := #[] } ∧ lo ≤ D ∧ w.heap[D]? = some (.deferred (some [])) ∧ ∀ b, (Hp.get s.h b).live → r.blk b ≠ D
  ne : l.Nodup
theorem DfOk.nil {lo : Nat} {r : Rho} {s : St} {w : World} (h : lo ≤ w.heap.size) : DfOk lo r s w [] := ⟨h, fun d hd => (by cases hd), List.nodup_nil⟩
theorem DfOk.stp {lo : Nat} {r r' : Rho} {s s' : St} {w w' : World} {l : List Deferred} (h : DfOk lo r s w l) (k : Stp r s w r' s' w') : DfOk lo r' s' w' l := ⟨Nat.le_trans h.hlo k.size, fun d hd => by
  obtain ⟨D, h1, h0, h2, h3⟩ := h.all d hd
  have hlt := (Array.getElem?_eq_some_iff.1 h2).1
  refine ⟨D, h1, h0, (k.keep D hlt h3).trans h2, fun b hb e => ?_⟩
  rcases k.old b hb with ⟨a, ha, e'⟩ | h'
  · exact h3 a ha (e'.trans e)
  · omega, h.ne⟩

section
variable {P : Program} {NG : Env} {B0 N : Nat} {ro : Option Nat} {E : Fr → St → Prop} {C : CallE → Prop}
theorem Ct.bind {f : K → R} {g : Fr → St → K → R} {E' : Fr → St → Prop} (h : Ct f E') (hg : ∀ fr s, E' fr s → Ct (g fr s) E) : Ct (fun k => f fun fr s => g fr s k) E := by
  rcases h with h | ⟨fr, s, h, he⟩
  · exact .inl fun k => h _
  · rcases hg fr s he with h' | ⟨fr', s', h', he'⟩
    · exact .inl fun k => (h _).trans (h' k)
    · exact .inr ⟨fr', s', fun k => (h _).trans (h' k), he'⟩
/-- What an operation does, in a round or in none. -/
def OpI (P : Program) (NG : Env) (B0 N : Nat) (ro : Option Nat) (o : Oper) (fr : Fr) (s : St) (fr' : Fr) (s' : St) : Prop :=
  ∀ (r : Rho) (w : World) (a : Act), Base NG r → Sim B0 r s w → FrR N r fr a → ∀ (Q : Exit → Act → World → Prop) (K : Act → World → Prop),
    (∀ a' w' r', Sim B0 r' s' w' → Stp r s w r' s' w' → FrR N r' fr' a' → a'.defers = a.defers → K a' w') → o.wpIn (Wd ro) 0 P a w K Q
def SndI (P : Program) (NG : Env) (B0 N : Nat) (C : CallE → Prop) (ro : Option Nat) (o : Oper) (i : I) : Prop :=
  ∀ c, C c → ∀ fr s, Ct (evI i c fr s) (OpI P NG B0 N ro o fr s)
def noDf (o : Oper) : Bool := match o.op with | .defer _ => false | _ => true
theorem noDf_eq {o : Oper} (h : noDf o = true) : ∀ c, o.op ≠ .defer c := fun c e => by rw [noDf, e] at h; cases h
theorem Snd.toI {o : Oper} {i : I} (hd : noDf o = true) (h : Snd P NG B0 N C o i) : SndI P NG B0 N C ro o i := fun c hc fr s =>
  (h c hc fr s).mono fun fr' s' hdo r w a hb hs hf Q K hK => oper_in (noDf_eq hd) (hdo r w a hb hs hf Q K hK)
/-- What the i-th operation of a region does. -/
def OpG (P : Program) (NG : Env) (B0 N : Nat) (ro : Option Nat) (ops : Array Oper) (i : Nat) (fr : Fr) (s : St) (fr' : Fr) (s' : St) : Prop :=
  ∀ (r : Rho) (w : World) (a : Act), Base NG r → Sim B0 r s w → FrR N r fr a → ∀ (Q : Exit → Act → World → Prop) (K : Act → World → Prop),
    (∀ a' w' r', Sim B0 r' s' w' → Stp r s w r' s' w' → FrR N r' fr' a' → a'.defers = a.defers → K a' w') → wpOpIn (Wd ro) 0 P ops Q i K a w
/-- Does an instruction stand for an operation of a region, by a check of plain ones? -/
noncomputable def okG (ck : Oper → I → Bool) (N : Nat) (ops : Array Oper) (o : Oper) (i : I) : Bool :=
  match o.guard with
  | none => ck o i
  | some (j, b) => (match i with
    | .gd h l b' i' d => ck o i' && (b == b') && dB o.dst d && (match (ops[j]?).bind (·.dst) with | some t => t == slotN h l && decide (t < N) | none => false)
    | _ => false)
theorem snd_g {ck : Oper → I → Bool} (hck : ∀ o i, ck o i = true → SndI P NG B0 N C ro o i) {ops : Array Oper} {k : Nat} {o : Oper} {i : I} (ho : ops[k]? = some o) (h : okG ck N ops o i = true) {c : CallE} (hc : C c) (fr : Fr) (s : St) :
    Ct (evI i c fr s) (OpG P NG B0 N ro ops k fr s) := by
  unfold okG at h
  split at h
  · rename_i hg
    refine (hck o i h c hc fr s).mono fun fr' s' hd r w a hb hs hf Q K hK => ?_
    unfold wpOpIn
    rw [ho]
    simp only [Region.wanted, hg, if_true]
    exact hd r w a hb hs hf Q K hK
  · rename_i j b hg
    split at h
    case h_2 => cases h
    rename_i x y b' i' d
    simp only [Bool.and_eq_true] at h
    obtain ⟨⟨⟨h1, h2⟩, h3⟩, h4⟩ := h
    obtain rfl := beq_iff_eq.1 h2
    split at h4
    case h_2 => cases h4
    rename_i t ht
    simp only [Bool.and_eq_true, beq_iff_eq, decide_eq_true_eq] at h4
    have hy : ∀ (r : Rho) (a : Act) (v : Bool), FrR N r fr a → F.get y (F.get x fr) = .b v → yielded ops a.tmps j = some v := fun r a v hf e => by
      have hlt : t < a.tmps.size := by rw [hf.size]; exact h4.2
      have := hf.get x y _ (by rw [← h4.1]; exact Array.getElem?_eq_getElem hlt)
      rw [e] at this
      simp only [Rel] at this
      unfold yielded
      rw [ht]
      simp only [Option.bind_some, Array.getElem?_eq_getElem hlt, this]
    show Ct (hGd x y b i' d (evI i') c fr s) _
    unfold hGd
    refine Ct.onB fun v e => Ct.ite (fun hv => ?_) fun hv => ?_
    · refine (hck o i' h1 c hc fr s).mono fun fr' s' hd r w a hb hs hf Q K hK => ?_
      unfold wpOpIn
      rw [ho]
      have hvb : v = b := by cases v <;> cases b <;> first | rfl | cases hv
      have hw : Region.wanted o (yielded ops a.tmps) = true := by
        simp only [Region.wanted, hg, hy r a v hf e, hvb, beq_self_eq_true]
      simp only [hw, if_true]
      exact hd r w a hb hs hf Q K hK
    · refine Ct.fin fun r w a hb hs hf Q K hK => ?_
      unfold wpOpIn
      rw [ho]
      have hw : Region.wanted o (yielded ops a.tmps) = false := by
        simp only [Region.wanted, hg, hy r a v hf e]
        cases v <;> cases b <;> first | rfl | cases hv
      simp only [hw, Bool.false_eq_true, if_false]
      exact ⟨fun _ _ => trivial, hK _ _ r hs (.refl r s w) (hf.put h3 trivial) (put_dfr _ _ _)⟩
noncomputable def okL (ck : Oper → I → Bool) (N : Nat) (ops : Array Oper) : List Oper → List I → Bool
  | [], [] => true
  | o :: os, i :: l => okG ck N ops o i && okL ck N ops os l
  | _, _ => false
/-- What a region's operations do, from the k-th on. -/
def OpsDo (P : Program) (NG : Env) (B0 N : Nat) (ro : Option Nat) (ops : Array Oper) (k n : Nat) (fr : Fr) (s : St) (fr' : Fr) (s' : St) : Prop :=
  ∀ (r : Rho) (w : World) (a : Act), Base NG r → Sim B0 r s w → FrR N r fr a → ∀ (Q : Exit → Act → World → Prop),
    (∀ a' w' r', Sim B0 r' s' w' → Stp r s w r' s' w' → FrR N r' fr' a' → a'.defers = a.defers → Q .normal a' w') → wpOpsIn (Wd ro) 0 P ops Q (List.range' k n) a w
theorem snd_l {ck : Oper → I → Bool} (hck : ∀ o i, ck o i = true → SndI P NG B0 N C ro o i) {ops : Array Oper} {c : CallE} (hc : C c) : ∀ {os : List Oper} {l : List I} (k : Nat) (fr : Fr) (s : St), okL ck N ops os l = true → ops.toList.drop k = os →
    Ct (evL l c fr s) (OpsDo P NG B0 N ro ops k os.length fr s)
  | [], [], k, fr, s, _, _ => Ct.fin fun r w a hb hs hf Q hK => hK a w r hs (.refl r s w) hf rfl
  | o :: os, i :: l, k, fr, s, h, hd => by
    simp only [okL, Bool.and_eq_true] at h
    have hk : k < ops.toList.length := by
      rcases Nat.lt_or_ge k ops.toList.length with h | h
      · exact h
      · rw [List.drop_eq_nil_of_le h] at hd; cases hd
    rw [List.drop_eq_getElem_cons hk] at hd
    obtain ⟨e1, e2⟩ := List.cons.inj hd
    have ho : ops[k]? = some o := by
      rw [← Array.getElem?_toList, List.getElem?_eq_getElem hk, e1]
    show Ct (fun K => evI i c fr s fun fr s => evL l c fr s K) _
    refine Ct.bind (snd_g hck ho h.1 hc fr s) fun fr' s' hop => (snd_l hck hc (k + 1) fr' s' h.2 e2).mono fun fr2 s2 hdo r w a hb hs hf Q hK => ?_
    rw [List.length_cons, List.range'_succ, wpOpsIn_cons]
    exact hop r w a hb hs hf Q _ fun a' w' r' h1 h2 h3 h4 => hdo r' w' a' (hb.le h2.le) h1 h3 Q fun a2 w2 r2 k1 k2 k3 k4 => hK a2 w2 r2 k1 (h2.trans k2) k3 (k4.trans h4)
  | [], _ :: _, _, _, _, h, _ => by cases h
  | _ :: _, [], _, _, _, h, _ => by cases h

/-- What holds behind code, if the evaluator told what it does. -/
def Post (B0 N lo : Nat) (r : Rho) (s : St) (w : World) (out : R) (Q : Exit → Act → World → Prop) : Prop :=
  match out with
  | .bad => False
  | .nrm fr' s' => ∀ a' w' r', Sim B0 r' s' w' → Stp r s w r' s' w' → FrR N r' fr' a' → DfOk lo r' s' w' a'.defers → Q .normal a' w'
  | .ex id fr' s' => ∀ a' w' r', Sim B0 r' s' w' → Stp r s w r' s' w' → FrR N r' fr' a' → DfOk lo r' s' w' a'.defers → Q (.exit id) a' w'
  | .rt fr' s' => ∀ a' w' r', Sim B0 r' s' w' → Stp r s w r' s' w' → FrR N r' fr' a' → DfOk lo r' s' w' a'.defers → Q .ret a' w'
theorem Post.later {lo : Nat} {r r' : Rho} {s s' : St} {w w' : World} {out : R} {Q : Exit → Act → World → Prop} (h : Post B0 N lo r s w out Q) (k : Stp r s w r' s' w') : Post B0 N lo r' s' w' out Q := by
  cases out with
  | bad => exact h
  | nrm fr2 s2 => exact fun a2 w2 r2 h1 h2 h3 h4 => h a2 w2 r2 h1 (k.trans h2) h3 h4
  | ex id fr2 s2 => exact fun a2 w2 r2 h1 h2 h3 h4 => h a2 w2 r2 h1 (k.trans h2) h3 h4
  | rt fr2 s2 => exact fun a2 w2 r2 h1 h2 h3 h4 => h a2 w2 r2 h1 (k.trans h2) h3 h4
/-- Code of the evaluator stands for code. -/
def CSnd (P : Program) (NG : Env) (B0 N : Nat) (C : CallE → Prop) (ro : Option Nat) (x : Code) (q : Go.Proofs.YtenpbpgoglepfaaGreatDoor.C) : Prop :=
  ∀ c, C c → ∀ fr s (r : Rho) (w : World) (a : Act) (lo : Nat), Base NG r → Sim B0 r s w → FrR N r fr a → DfOk lo r s w a.defers → ∀ Q, Post B0 N lo r s w (evC q c fr s) Q → x.wpIn (Wd ro) 0 P Q a w
theorem Post.of_ct {lo : Nat} {r : Rho} {s : St} {w : World} {f : K → R} {D : Fr → St → Prop} {Q : Exit → Act → World → Prop} (h : Ct f D) (hp : Post B0 N lo r s w (f .nrm) Q) : ∃ fr' s', D fr' s' ∧ ∀ a' w' r', Sim B0 r' s' w' → Stp r s w r' s' w' → FrR N r' fr' a' → DfOk lo r' s' w' a'.defers → Q .normal a' w' := by
  rcases h with h | ⟨fr', s', h, hd⟩
  · rw [h] at hp; exact hp.elim
  · rw [h] at hp; exact ⟨fr', s', hd, hp⟩
theorem csnd_ops {ck : Oper → I → Bool} (hck : ∀ o i, ck o i = true → SndI P NG B0 N C ro o i) {id : Nat} {ops : Array Oper} {l : List I} (h : okL ck N ops ops.toList l = true) : CSnd P NG B0 N C ro (.region id ops false) (.ops l) := fun c hc fr s r w a lo hb hs hf hdf Q hp => by
  obtain ⟨fr', s', hd, hq⟩ := Post.of_ct (snd_l hck hc 0 fr s h rfl) hp
  refine wpIn_region ?_
  have := hd r w a hb hs hf Q fun a' w' r' h1 h2 h3 h4 => hq a' w' r' h1 h2 h3 (by rw [h4]; exact hdf.stp h2)
  rw [Array.length_toList] at this
  rwa [List.range_eq_range']
theorem csnd_seq {x y : Code} {p q : Go.Proofs.YtenpbpgoglepfaaGreatDoor.C} (h : CSnd P NG B0 N C ro x p) (k : CSnd P NG B0 N C ro y q) : CSnd P NG B0 N C ro (.seq x y) (.seq p q) := fun c hc fr s r w a lo hb hs hf hdf Q hp => by
  refine wpIn_seq (h c hc fr s r w a lo hb hs hf hdf _ ?_)
  have e : evC (.seq p q) c fr s = onN (evC p c fr s) (evC q c) := rfl
  rw [e] at hp
  generalize evC p c fr s = out at hp
  cases out with
  | bad => exact hp
  | nrm fr' s' => exact fun a' w' r' h1 h2 h3 h4 => k c hc fr' s' r' w' a' lo (hb.le h2.le) h1 h3 h4 Q (Post.later hp h2)
  | ex id fr' s' => exact hp
  | rt fr' s' => exact hp
theorem csnd_cnd {v : Operand} {x y : Code} {t : X} {p q : Go.Proofs.YtenpbpgoglepfaaGreatDoor.C} (hv : xB NG N v t = true) (h : CSnd P NG B0 N C ro x p) (k : CSnd P NG B0 N C ro y q) : CSnd P NG B0 N C ro (.cond v x y) (.cnd t p q) := fun c hc fr s r w a lo hb hs hf hdf Q hp => by
  have e : evC (.cnd t p q) c fr s = AV.onB (X.ev t fr) .bad fun t => ifB t (evC p c fr s) (evC q c fr s) := rfl
  rw [e] at hp
  have hr := xB_rel hv hb hf
  cases ht : X.ev t fr <;> rw [ht] at hp hr <;> try exact hp.elim
  rename_i b
  simp only [Rel] at hr
  refine wpIn_cond hr ?_
  cases b
  · exact k c hc fr s r w a lo hb hs hf hdf Q hp
  · exact h c hc fr s r w a lo hb hs hf hdf Q hp
theorem csnd_blk {id : Nat} {x : Code} {p : Go.Proofs.YtenpbpgoglepfaaGreatDoor.C} (h : CSnd P NG B0 N C ro x p) : CSnd P NG B0 N C ro (.block id x) (.blk id p) := fun c hc fr s r w a lo hb hs hf hdf Q hp => by
  refine wpIn_block (h c hc fr s r w a lo hb hs hf hdf _ ?_)
  have e : evC (.blk id p) c fr s = onX (evC p c fr s) id := rfl
  rw [e] at hp
  generalize evC p c fr s = out at hp
  cases out with
  | bad => exact hp
  | nrm fr' s' => exact hp
  | rt fr' s' => exact hp
  | ex j fr' s' =>
    intro a' w' r' h1 h2 h3 h4
    have e2 : onX (.ex j fr' s') id = ifB (Nat.beq j id) (.nrm fr' s') (.ex j fr' s') := rfl
    rw [e2] at hp
    show (if j = id then Q .normal a' w' else Q (.exit j) a' w')
    rcases hj : Nat.beq j id with _ | _
    · rw [if_neg (fun e => by rw [e, Nat.beq_refl] at hj; cases hj)]
      rw [hj] at hp
      exact hp a' w' r' h1 h2 h3 h4
    · rw [if_pos (Nat.eq_of_beq_eq_true hj)]
      rw [hj] at hp
      exact hp a' w' r' h1 h2 h3 h4
theorem csnd_loop {x : Code} {p : Go.Proofs.YtenpbpgoglepfaaGreatDoor.C} (h : CSnd P NG B0 N C ro x p) : CSnd P NG B0 N C ro (.loop x) (.loop p) := fun c hc fr s r w a lo hb hs hf hdf Q hp => by
  have key : ∀ n fr s (r : Rho) (w : World) (a : Act), Base NG r → Sim B0 r s w → FrR N r fr a → DfOk lo r s w a.defers → Post B0 N lo r s w (rounds (evC p c) n fr s) Q → Code.roundsIn (Wd ro) 0 P x Q n a w := by
    intro n
    induction n with
    | zero => intro fr s r w a _ _ _ _ hp; exact hp.elim
    | succ n ih =>
      intro fr s r w a hb hs hf hdf hp
      rw [roundsIn_succ]
      refine h c hc fr s r w a lo hb hs hf hdf _ ?_
      have e : rounds (evC p c) (n + 1) fr s = onN (evC p c fr s) (rounds (evC p c) n) := rfl
      rw [e] at hp
      generalize evC p c fr s = out at hp
      cases out with
      | bad => exact hp
      | nrm fr' s' => exact fun a' w' r' h1 h2 h3 h4 => ih fr' s' r' w' a' (hb.le h2.le) h1 h3 h4 (Post.later hp h2)
      | ex id fr' s' => exact hp
      | rt fr' s' => exact hp
  exact wpIn_loop_rounds 100000 (key 100000 fr s r w a hb hs hf hdf hp)
theorem csnd_skip : CSnd P NG B0 N C ro .skip .skip := fun c hc fr s r w a lo hb hs hf hdf Q hp => wpIn_skip (hp a w r hs (.refl r s w) hf hdf)
theorem csnd_ex {id : Nat} : CSnd P NG B0 N C ro (.exit id) (.ex id) := fun c hc fr s r w a lo hb hs hf hdf Q hp => wpIn_exit (hp a w r hs (.refl r s w) hf hdf)
theorem csnd_ret : CSnd P NG B0 N C ro .ret .ret := fun c hc fr s r w a lo hb hs hf hdf Q hp => wpIn_ret (hp a w r hs (.refl r s w) hf hdf)
theorem csnd_bad {x : Code} {d : D} {l : List I} : CSnd P NG B0 N C ro x (.ops (.nlc (.k .np) d :: l)) := fun c hc fr s r w a lo hb hs hf hdf Q hp => hp.elim
end
end Go.Proofs.YtenpbpgoglepfaaGreatDoor
namespace Go.Proofs.YtenpbpgoglepfaaGreatDoor
open Go.RowKit
set_option linter.unusedVariables false

section
variable {P : Program} {NG : Env} {B0 N : Nat} {C : CallE → Prop} {o : Oper}
/-- What the type of a plain error is. -/
structure EqT (P : Program) : Prop where
  ptr : ∃ te i j, P.underlying eqT = some (.pointer te) ∧ P.info? eqT = some i ∧ i.comparable = true ∧ P.info? te = some j ∧ j.size ≠ 0
def eqOp (g : Bool) : BinOp := if g then .eql else .neq
noncomputable def kindB (P : Program) (u t : Nat) (p' : Operand) : Bool := match P.underlying u, t with
  | some .bool, 0 => true | some .string, 1 => true | some (.pointer _), 2 => true | some (.slice _), 3 => true | some (.map _ _), 4 => true | some (.func ..), 5 => true | some (.interface _), 6 => true
  | some (.interface _), 7 => (match p' with | .const _ => true | _ => false)
  | _, _ => false
theorem run_eqn {w : World} {u : TypeId} {p p' : Operand} {x y : Value} {b g : Bool} (hg : (eqGuard (eqOp g) u p p' x y).run P w = .ok () w) (he : (Op.equal u x y).run P w = .ok b w)
    (h1 : binOp .eql u x y = (do pure (.bool (← Op.equal u x y)))) (h2 : binOp .neq u x y = (do pure (.bool (!(← Op.equal u x y))))) :
    (do eqGuard (eqOp g) u p p' x y; binOp (eqOp g) u x y : Sem Value).run P w = .ok (.bool (eqB b g)) w := by
  rw [Sem.run_bind, hg]
  cases g
  · show (binOp .neq u x y).run P w = _
    rw [h2, Sem.run_bind, he]
    cases b <;> rfl
  · show (binOp .eql u x y).run P w = _
    rw [h1, Sem.run_bind, he]
    cases b <;> rfl
theorem guard_one {w : World} {u : TypeId} {p p' : Operand} {x y : Value} {g : Bool} (hx : x ≠ .nilIface ∨ y ≠ .nilIface) (hx2 : ∀ a, x ≠ .agg a) : (eqGuard (eqOp g) u p p' x y).run P w = .ok () w := by
  unfold eqGuard
  cases g <;> (cases x <;> first | rfl | (exact absurd rfl (hx2 _)) | (cases y <;> first | rfl | (rcases hx with h | h <;> exact absurd rfl h)))
theorem kind_ok {u t : Nat} {p' : Operand} (h : kindB P u t p' = true) : (t = 0 ∧ P.underlying u = some .bool) ∨ (t = 1 ∧ P.underlying u = some .string) ∨ (t = 2 ∧ ∃ e, P.underlying u = some (.pointer e)) ∨ (t = 3 ∧ ∃ e, P.underlying u = some (.slice e)) ∨ (t = 4 ∧ ∃ k e, P.underlying u = some (.map k e)) ∨
    (t = 5 ∧ ∃ a b c, P.underlying u = some (.func a b c)) ∨ (t = 6 ∧ ∃ m, P.underlying u = some (.interface m)) ∨ (t = 7 ∧ (∃ m, P.underlying u = some (.interface m)) ∧ ∃ v, p' = .const v) := by
  unfold kindB at h
  split at h
  all_goals try (rename_i e; simp [e]; done)
  · rename_i m e
    split at h
    · simp [e]
    · cases h
  · cases h
theorem eqv_str {w : World} {u : TypeId} {p p' : Operand} {s1 s2 : ByteArray} {l1 l2 : List Nat} {g : Bool} (h1 : s1.data.toList.map (fun b => b.toNat) = l1) (h2 : s2.data.toList.map (fun b => b.toNat) = l2) :
    (do eqGuard (eqOp g) u p p' (.string s1) (.string s2); binOp (eqOp g) u (.string s1) (.string s2) : Sem Value).run P w = .ok (.bool (eqB (l1 == l2) g)) w := by
  have e : (s1.toList == s2.toList) = (l1 == l2) := by
    have hinj : ∀ (a b : List UInt8), a.map (fun b => b.toNat) = b.map (fun b => b.toNat) → a = b := fun a b h => by
      have := List.map_inj_right (f := fun b : UInt8 => b.toNat) (fun x y h => UInt8.toNat_inj.1 h) (l := a) (l' := b)
      exact this.1 h
    rw [ByteArray.toList_eq, ByteArray.toList_eq, Bool.eq_iff_iff, beq_iff_eq, beq_iff_eq, ← h1, ← h2]
    exact ⟨fun h => by rw [h], hinj _ _⟩
  rw [Sem.run_bind, guard_one (.inl (by simp)) (by simp)]
  cases g
  · show (Op.stringOp .neq s1 s2).run P w = _
    simp only [Op.stringOp, e]
    cases (l1 == l2) <;> rfl
  · show (Op.stringOp .eql s1 s2).run P w = _
    simp only [Op.stringOp, e]
    cases (l1 == l2) <;> rfl
section
variable {w : World} {u : TypeId} (n : Nat)
theorem in_bool (hu : P.underlying u = some .bool) (a b : Bool) : (Op.equalIn (n + 1) u (.bool a) (.bool b)).run P w = .ok (a == b) w := by
  unfold Op.equalIn
  simp only [Sem.run_bind, run_und hu, Result.andThen_ok, Sem.run_pure]
theorem in_ptr_nn {e : TypeId} (hu : P.underlying u = some (.pointer e)) : (Op.equalIn (n + 1) u (.pointer none) (.pointer none)).run P w = .ok true w := by
  unfold Op.equalIn
  simp only [Sem.run_bind, run_und hu, Result.andThen_ok, Sem.run_pure, Option.isNone_none]
theorem in_ptr_sn {e : TypeId} (hu : P.underlying u = some (.pointer e)) (a : Addr) : (Op.equalIn (n + 1) u (.pointer (some a)) (.pointer none)).run P w = .ok false w := by
  unfold Op.equalIn
  simp only [Sem.run_bind, run_und hu, Result.andThen_ok, Sem.run_pure]
theorem in_ptr_ns {e : TypeId} (hu : P.underlying u = some (.pointer e)) (a : Addr) : (Op.equalIn (n + 1) u (.pointer none) (.pointer (some a))).run P w = .ok false w := by
  unfold Op.equalIn
  simp only [Sem.run_bind, run_und hu, Result.andThen_ok, Sem.run_pure, Option.isNone_some]
theorem in_fn_nn {a b : Array TypeId} {c : Bool} (hu : P.underlying u = some (.func a b c)) : (Op.equalIn (n + 1) u .nilFunc .nilFunc).run P w = .ok true w := by
  unfold Op.equalIn
  simp only [Sem.run_bind, run_und hu, Result.andThen_ok, Sem.run_pure]
theorem in_fn_sn {a b : Array TypeId} {c : Bool} (hu : P.underlying u = some (.func a b c)) (f : Go.Fn) (x y : Array Value) : (Op.equalIn (n + 1) u (.func f x y) .nilFunc).run P w = .ok false w := by
  unfold Op.equalIn
  simp only [Sem.run_bind, run_und hu, Result.andThen_ok, Sem.run_pure]
theorem in_if_nn {m : Array (String × TypeId)} (hu : P.underlying u = some (.interface m)) : (Op.equalIn (n + 1) u .nilIface .nilIface).run P w = .ok true w := by
  unfold Op.equalIn
  simp only [Sem.run_bind, run_und hu, Result.andThen_ok, Sem.run_pure]
theorem in_if_sn {m : Array (String × TypeId)} (hu : P.underlying u = some (.interface m)) (t : TypeId) (v : Value) : (Op.equalIn (n + 1) u (.iface t v) .nilIface).run P w = .ok false w := by
  unfold Op.equalIn
  simp only [Sem.run_bind, run_und hu, Result.andThen_ok, Sem.run_pure]
theorem in_if_ns {m : Array (String × TypeId)} (hu : P.underlying u = some (.interface m)) (t : TypeId) (v : Value) : (Op.equalIn (n + 1) u .nilIface (.iface t v)).run P w = .ok false w := by
  unfold Op.equalIn
  simp only [Sem.run_bind, run_und hu, Result.andThen_ok, Sem.run_pure]
theorem in_if_ne {m : Array (String × TypeId)} (hu : P.underlying u = some (.interface m)) {t t' : TypeId} (h : t ≠ t') (v v' : Value) : (Op.equalIn (n + 1) u (.iface t v) (.iface t' v')).run P w = .ok false w := by
  unfold Op.equalIn
  simp only [Sem.run_bind, run_und hu, Result.andThen_ok, ne_eq, h, not_false_eq_true, if_true, Sem.run_pure]
end
noncomputable def okEqv (P : Program) (NG N : Nat) (o : Oper) (t : Nat) (g : Bool) (x y : X) (d : D) : Bool := dB o.dst d && (match o.op with
  | .binOp q u p p' _ => decide (q = eqOp g) && xB NG N p x && xB NG N p' y && kindB P u t p'
  | _ => false)
theorem snd_eqv (hT : EqT P) {t : Nat} {g : Bool} {x y : X} {d : D} (h : okEqv P NG N o t g x y d = true) : Snd P NG B0 N C o (.eqv t g x y d) := fun c _ fr s => by
  simp only [okEqv, Bool.and_eq_true] at h
  obtain ⟨hd, h⟩ := h
  split at h
  case h_2 => cases h
  rename_i q u p p' u' e'
  simp only [Bool.and_eq_true, decide_eq_true_eq] at h
  obtain ⟨⟨⟨hq, hx⟩, hy⟩, hk⟩ := h
  subst hq
  show Ct (hEqv t g x y d c fr s) _
  unfold hEqv
  rcases hev : eqvA (isRo s.h) t (X.ev x fr) (X.ev y fr) with _ | b
  · exact Ct.bad
  refine Ct.putB (do_pure hd fun r w a hb hs hf => ⟨.bool (eqB b g), ?_, rfl⟩)
  have h1 := xB_rel hx hb hf
  have h2 := xB_rel hy hb hf
  rw [ex_binOp e']
  refine run_v ?_
  generalize X.ev x fr = vx at hev h1
  generalize X.ev y fr = vy at hev h2
  have hk := kind_ok hk
  unfold eqvA at hev
  split at hev
  · -- truths
    cases hev
    simp only [Rel] at h1 h2
    rcases hk with ⟨_, hu⟩ | hk
    · rw [h1, h2]
      refine run_eqn (guard_one (.inl (by simp)) (by simp)) ?_ rfl rfl
      exact in_bool 9999 hu _ _
    · simp at hk
  · -- strings
    rename_i lx ly _
    obtain ⟨s1, e1, h1⟩ := h1
    obtain ⟨s2, e2, h2⟩ := h2
    rw [e1, e2]
    refine (eqv_str h1 h2).trans ?_
    split at hev
    · rename_i hxy
      cases hev
      have hxy : lx = ly := by simpa using hxy
      rw [hxy, show (ly.map r.byt == ly.map r.byt) = true by simp]
    · rename_i hxy
      split at hev
      · rename_i hlow
        cases hev
        rw [Bool.and_eq_true] at hlow
        have q1 : ∀ z ∈ lx, z < 256 := fun z hz => blt_lt (List.all_eq_true.1 hlow.1 z hz)
        have q2 : ∀ z ∈ ly, z < 256 := fun z hz => blt_lt (List.all_eq_true.1 hlow.2 z hz)
        rw [byt_all r q1, byt_all r q2, show (lx == ly) = false by simpa using hxy]
      · cases hev
  · -- pointers
    cases hev
    simp only [Rel] at h1 h2
    obtain ⟨e, hu⟩ : ∃ e, P.underlying u = some (.pointer e) := by simpa using hk
    rw [h1, h2]
    exact run_eqn (guard_one (.inl (by simp)) (by simp)) (in_ptr_nn 9999 hu) rfl rfl
  · cases hev
    simp only [Rel] at h1 h2
    obtain ⟨e, hu⟩ : ∃ e, P.underlying u = some (.pointer e) := by simpa using hk
    rw [h1.2, h2]
    exact run_eqn (guard_one (.inl (by simp)) (by simp)) (in_ptr_sn 9999 hu _) rfl rfl
  · cases hev
    simp only [Rel] at h1 h2
    obtain ⟨e, hu⟩ : ∃ e, P.underlying u = some (.pointer e) := by simpa using hk
    rw [h1, h2.2]
    exact run_eqn (guard_one (.inl (by simp)) (by simp)) (in_ptr_ns 9999 hu _) rfl rfl
  · -- slices
    cases hev
    simp only [Rel] at h1 h2
    obtain ⟨e, hu⟩ : ∃ e, P.underlying u = some (.slice e) := by simpa using hk
    rw [h1, h2]
    exact run_eqn (guard_one (.inl (by simp)) (by simp)) (run_equalIn_slice_nil w 9999 u e none 0 0 hu) rfl rfl
  · cases hev
    obtain ⟨_, x0, c0, hv, _⟩ := h1
    simp only [Rel] at h2
    obtain ⟨e, hu⟩ : ∃ e, P.underlying u = some (.slice e) := by simpa using hk
    rw [hv, h2]
    exact run_eqn (guard_one (.inl (by simp)) (by simp)) (run_equalIn_slice_nil w 9999 u e _ _ _ hu) rfl rfl
  · -- maps
    cases hev
    simp only [Rel] at h1 h2
    obtain ⟨k, e, hu⟩ : ∃ k e, P.underlying u = some (.map k e) := by simpa using hk
    rw [h1, h2]
    exact run_eqn (guard_one (.inl (by simp)) (by simp)) (run_equalIn_map_nil w 9999 u k e none hu) rfl rfl
  · cases hev
    simp only [Rel] at h1 h2
    obtain ⟨k, e, hu⟩ : ∃ k e, P.underlying u = some (.map k e) := by simpa using hk
    rw [h1.2, h2]
    exact run_eqn (guard_one (.inl (by simp)) (by simp)) (run_equalIn_map_nil w 9999 u k e _ hu) rfl rfl
  · -- functions
    cases hev
    simp only [Rel] at h1 h2
    obtain ⟨a1, b1, c1, hu⟩ : ∃ a b c, P.underlying u = some (.func a b c) := by simpa using hk
    rw [h1, h2]
    exact run_eqn (guard_one (.inl (by simp)) (by simp)) (in_fn_nn 9999 hu) rfl rfl
  · cases hev
    obtain ⟨fa, fc, hv, _⟩ := h1
    simp only [Rel] at h2
    obtain ⟨a1, b1, c1, hu⟩ : ∃ a b c, P.underlying u = some (.func a b c) := by simpa using hk
    rw [hv, h2]
    exact run_eqn (guard_one (.inl (by simp)) (by simp)) (in_fn_sn 9999 hu _ _ _) rfl rfl
  · -- interfaces
    cases hev
    obtain ⟨v1, hv, _⟩ := h1
    simp only [Rel] at h2
    obtain ⟨m, hu⟩ : ∃ m, P.underlying u = some (.interface m) := by simpa using hk
    rw [hv, h2]
    exact run_eqn (guard_one (.inl (by simp)) (by simp)) (in_if_sn 9999 hu _ _) rfl rfl
  · cases hev
    obtain ⟨v1, hv, _⟩ := h2
    simp only [Rel] at h1
    obtain ⟨m, hu⟩ : ∃ m, P.underlying u = some (.interface m) := by simpa using hk
    rw [h1, hv]
    exact run_eqn (guard_one (.inr (by simp)) (by simp)) (in_if_ns 9999 hu _ _) rfl rfl
  · rename_i t1 x1 t2 x2
    obtain ⟨v1, hv1, hr1⟩ := h1
    obtain ⟨v2, hv2, hr2⟩ := h2
    obtain ⟨m, hu⟩ : ∃ m, P.underlying u = some (.interface m) := by simpa using hk
    split at hev
    · rename_i ht
      have ht0 := (beq_iff_eq.1 ht).symm
      subst ht0
      split at hev
      case isFalse => cases hev
      rename_i ht
      have ht := beq_iff_eq.1 ht
      subst ht
      unfold eqvR at hev
      split at hev
      case h_2 => cases hev
      rename_i b1 b2
      split at hev
      case isFalse => cases hev
      rename_i hro
      simp only [Bool.and_eq_true] at hro
      obtain ⟨⟨⟨⟨⟨ro1, ro2⟩, l1⟩, l2⟩, l3⟩, l4⟩ := hro
      have l3 := Nat.le_of_ble_eq_true l3
      have l4 := Nat.le_of_ble_eq_true l4
      have l1 := blt_lt l1
      have l2 := blt_lt l2
      cases hev
      simp only [Rel] at hr1 hr2
      have cells : ∀ b', isRo s.h b' = true → ∃ cs t, w.heap[r.blk b']? = some (.cells cs t (0, 0)) := fun b' h => by
        have hok := hs.ok b'
        unfold isRo at h
        cases hg : Hp.get s.h b' <;> rw [hg] at h hok <;> first | exact hok.2.2 | cases h
      obtain ⟨c1, ty1, hc1⟩ := cells b1 ro1
      obtain ⟨c2, ty2, hc2⟩ := cells b2 ro2
      obtain ⟨te, i, j, hp, hi, hcmp, hj, hjs⟩ := hT.ptr
      have heq : (binOp .eql u (.iface eqT v1) (.iface eqT v2)).run P w = .ok (.bool (Nat.beq b1 b2)) w := by
        rw [hr1.2, hr2.2, Nat.add_zero, Nat.add_zero]
        by_cases hbb : b1 = b2
        · subst hbb
          rw [Nat.beq_refl]
          exact run_eql_iface_ptr_same w _ hu hp hi hcmp hj
        · have : Nat.beq b1 b2 = false := by
            rcases h : Nat.beq b1 b2 with _ | _
            · rfl
            · exact absurd (Nat.eq_of_beq_eq_true h) hbb
          rw [this]
          exact run_eql_iface_ptr_other w hu hp hi hcmp hj hjs (fun e => hbb (hb.inj b1 b2 l1 l2 l3 l4 (congrArg Addr.block e) (congrArg Addr.off e))) hc1 hc2
      have heq2 : (Op.equal u (.iface eqT v1) (.iface eqT v2)).run P w = .ok (Nat.beq b1 b2) w := by
        have e : (binOp .eql u (.iface eqT v1) (.iface eqT v2)) = (do pure (.bool (← Op.equal u (.iface eqT v1) (.iface eqT v2)))) := rfl
        rw [e, Sem.run_bind] at heq
        rcases hq : (Op.equal u (.iface eqT v1) (.iface eqT v2)).run P w with ⟨bb, w2⟩ | ⟨hh, w2⟩
        · rw [hq] at heq
          simp only [Result.andThen_ok, Sem.run_pure, Result.ok.injEq, Value.bool.injEq] at heq
          rw [heq.1, heq.2]
        · rw [hq] at heq
          simp at heq
      rw [hv1, hv2]
      exact run_eqn (guard_one (.inl (by simp)) (by simp)) heq2 rfl rfl
    · rename_i ht
      cases hev
      rw [hv1, hv2]
      exact run_eqn (guard_one (.inl (by simp)) (by simp)) (in_if_ne 9999 hu (fun e => ht (by rw [e]; exact beq_self_eq_true _)) _ _) rfl rfl
  · -- beside the literal nil
    cases hev
    simp only [Rel] at h1 h2
    obtain ⟨⟨m, hu⟩, v, rfl⟩ : (∃ m, P.underlying u = some (.interface m)) ∧ ∃ v, p' = .const v := by simpa using hk
    rw [h1, h2]
    refine run_eqn ?_ (in_if_nn 9999 hu) rfl rfl
    unfold eqGuard
    cases g <;> simp [eqOp]
  · cases hev
    obtain ⟨v1, hv, _⟩ := h1
    simp only [Rel] at h2
    obtain ⟨⟨m, hu⟩, v, rfl⟩ : (∃ m, P.underlying u = some (.interface m)) ∧ ∃ v, p' = .const v := by simpa using hk
    rw [hv, h2]
    exact run_eqn (guard_one (.inl (by simp)) (by simp)) (in_if_sn 9999 hu _ _) rfl rfl
  · cases hev
end
end Go.Proofs.YtenpbpgoglepfaaGreatDoor
namespace Go.Proofs.YtenpbpgoglepfaaGreatDoor
open Go.RowKit
set_option linter.unusedVariables false

section
variable {P : Program} {NG : Env} {B0 N : Nat} {C : CallE → Prop} {o : Oper}
theorem zeroCells_made (z : Array Value) (n : Nat) : Builtin.zeroCells z n = madeCells z (n * z.size) := rfl
theorem AppSrc.zeros {t tx ty el z : Nat} {q : TypeInfo} {zv : Value} (he : ElOk P t el z q zv) {k kx : IntKind} (hk : P.underlying tx = some (.int k)) {n : Nat} (hn : n * z ≤ 4096) (h1 : ∀ v ∈ zv.cells.toList, v.oneCell' = true) (w : World) :
    AppSrc P t tx ty el q zv (.int kx (n : Int)) n (Builtin.zeroCells zv.cells n).toList w := by
  obtain ⟨hu, hq, hz, hsize, hzs, hpos, hby⟩ := he
  subst hsize
  have hn4 : n ≤ 4096 := by
    have := Nat.mul_le_mul_left n hpos
    omega
  have hw : IntKind.i64.wrap (n : Int) = n := IntWalk.i64_in _ (by omega)
  have hneg : ¬ ((n : Int) < 0) := by omega
  have hbig : ¬ (281474976710656 < (n : Int) * (q.bytes : Int)) := by
    have h := Nat.mul_le_mul hn4 hby
    have : ((n * q.bytes : Nat) : Int) ≤ 4096 * 1000000 := by omega
    rw [Int.natCast_mul] at this
    omega
  have hone : ∀ v ∈ (Builtin.zeroCells zv.cells n).toList, v.oneCell' = true := fun v hv => by
    rw [zeroCells_made, made_flat] at hv
    obtain ⟨l, hl, hvl⟩ := List.mem_flatten.1 hv
    rw [List.eq_of_mem_replicate hl] at hvl
    exact h1 v hvl
  refine ⟨by rw [Array.length_toList, zeroCells_size, hzs], fun h0 A sl sc hle => ?_, fun h0 b off sl sc hr hc hf => ?_, fun h0 base sl sc olds hold hg h63 hfit => ?_⟩
  · subst h0
    cases A <;> simp [Builtin.append_, run_underlying hu, run_underlying hk, sizeOf, typeInfo, hq, asInt, asIntOf, IntWalk.i64_in 0 (by omega), hle, storeCells]
  · have hst := run_storeCells_cells (P := P) b (off + sl * q.size) (Builtin.zeroCells zv.cells n).toList 0 w (by simpa using hc) (by simpa using hf) hone
    simp only [Nat.add_zero] at hst
    have hne : ¬ (n * q.size = 0) := by
      have := Nat.mul_pos h0 hpos
      omega
    simp [Builtin.append_, run_underlying hu, run_underlying hk, sizeOf, typeInfo, hq, hz, zeroValue, asInt, asIntOf, hw, hneg, hbig, hr, hne, Addr.add_lit, hst]
  · have hne : ¬ (n * q.size = 0) := by
      have := Nat.mul_pos h0 hpos
      omega
    have hnr : ¬ (sl + n ≤ sc) := by omega
    have h63' : ¬ (9223372036854775807 < ((sl : Int) + (n : Int))) := by omega
    have h48' : ¬ (281474976710656 < Builtin.nextslicecap (sl + n) sc * q.bytes) := by omega
    simp [Builtin.append_, run_underlying hu, run_underlying hk, sizeOf, typeInfo, hq, hz, zeroValue, asInt, asIntOf, hw, hneg, hbig, hnr, hne, h63', h48', Question.forced, hold, newRow, grownCap]
    congr 2
    apply Array.ext'
    simp [List.append_assoc]
noncomputable def okApz (P : Program) (NG N : Nat) (o : Oper) (z : Nat) (zs : AV) (x y : X) (d : D) : Bool := dB o.dst d && (match o.op with
  | .call c => (match c.callee, c.args.toList, c.argTypes.toList with
    | .builtin .append, [p, p'], [t, tx] => xB NG N p x && xB NG N p' y && elB P t z && (match P.underlying tx with | some (.int _) => true | _ => false) && (match P.underlying t with | some (.slice el) => zB P el zs && allOne zs | _ => false)
    | _, _, _ => false)
  | _ => false)
theorem snd_apz {z : Nat} {zs : AV} {x y : X} {d : D} (h : okApz P NG N o z zs x y d = true) : Snd P NG B0 N C o (.apz z zs x y d) := fun c _ fr s => by
  simp only [okApz, Bool.and_eq_true] at h
  obtain ⟨hd, h⟩ := h
  split at h
  case h_2 => cases h
  rename_i cl e'
  split at h
  case h_2 => cases h
  rename_i p p' t tx hc ha ht
  simp only [Bool.and_eq_true] at h
  obtain ⟨⟨⟨⟨hx, hy⟩, hel⟩, hk⟩, hzs⟩ := h
  obtain ⟨el, q, v, hel⟩ := elB_ok hel
  split at hk
  case h_2 => cases hk
  rename_i k hk'
  rw [hel.hu] at hzs
  simp only [Bool.and_eq_true] at hzs
  obtain ⟨v', hv', hzr⟩ := zB_eq hzs.1
  have hvv : v' = v := by
    have h1 := hv' default
    simp only [zeroValue, Sem.run_bind, run_info hel.hq, Result.andThen_ok, hel.hz, Sem.run_pure, Result.ok.injEq, and_true] at h1
    exact h1.symm
  subst hvv
  show Ct (hApz z zs x y d c fr s) _
  unfold hApz
  refine Ct.onI fun tn j e => Ct.natI fun n hn => Ct.must fun hlim => ct_app hel hd hx (ex_append e' hc ha ht) fun r w a hb hs hf => ?_
  subst hn
  have hlim : n * z ≤ 4096 := Nat.le_of_ble_eq_true hlim
  have hr := xB_rel hy hb hf
  rw [e] at hr
  simp only [Rel] at hr
  refine ⟨(Builtin.zeroCells v'.cells n).toList, ?_, ?_⟩
  · rw [hr]
    exact AppSrc.zeros hel hk' hlim (ones_rel hzs.2 (hzr r)) w
  · have := repL_rel (hzr r) n
    rw [← made_flat] at this
    rw [zeroCells_made]
    exact this
noncomputable def okClr (P : Program) (NG N : Nat) (o : Oper) (z : Nat) (zs : AV) (x : X) (d : D) : Bool := dB o.dst d && (match o.op with
  | .call c => (match c.callee, c.args.toList, c.argTypes[0]? with
    | .builtin .clear, [p], some t => xB NG N p x && elB P t z && (match P.underlying t with | some (.slice el) => zB P el zs && allOne zs | _ => false)
    | _, _, _ => false)
  | _ => false)
theorem snd_clr {z : Nat} {zs : AV} {x : X} {d : D} (h : okClr P NG N o z zs x d = true) : Snd P NG B0 N C o (.clr z zs x d) := fun c _ fr s => by
  simp only [okClr, Bool.and_eq_true] at h
  obtain ⟨hd, h⟩ := h
  split at h
  case h_2 => cases h
  rename_i cl e'
  split at h
  case h_2 => cases h
  rename_i p t hc ha ht
  simp only [Bool.and_eq_true] at h
  obtain ⟨⟨hx, hel⟩, hzs⟩ := h
  obtain ⟨el, q, v, hu, hq, hz, hsize, hzsz, hpos, hby⟩ := elB_ok hel
  rw [hu] at hzs
  simp only [Bool.and_eq_true] at hzs
  obtain ⟨v', hv', hzr⟩ := zB_eq hzs.1
  have hvv : v' = v := by
    have h1 := hv' default
    simp only [zeroValue, Sem.run_bind, run_info hq, Result.andThen_ok, hz, Sem.run_pure, Result.ok.injEq, and_true] at h1
    exact h1.symm
  subst hvv
  show Ct (hClr z zs x d c fr s) _
  unfold hClr
  refine Ct.lenS fun n hn => Ct.must fun hlim => Ct.overS (fun h0 => ?_) fun b qo len cp ex cs hpos' hxe hcs hall => ?_
  · subst h0
    refine Ct.fin (do_pure hd fun r w a hb hs hf => ⟨.tuple #[], ?_, trivial⟩)
    have hr := xB_rel hx hb hf
    have hB : ∃ A cd, a.eval p = .slice A 0 cd := by
      rcases hn with ⟨e, _⟩ | ⟨b, q', z', cp, ex, e⟩
      · rw [e] at hr; exact ⟨none, 0, hr⟩
      · rw [e] at hr; obtain ⟨_, x0, c0, hv, _⟩ := hr; exact ⟨_, c0, hv⟩
    obtain ⟨A, cd, hB⟩ := hB
    rw [ex_builtin e' hc, args1 a ha, hB]
    refine run_v ?_
    cases A <;> simp only [Builtin.clear_, ht, List.getElem?_toArray, List.getElem?_cons_zero, Sem.run_bind, run_und hu, Result.andThen_ok, Sem.run_pure]
  · refine Ct.fin (do_val hd fun r w a hb hs hf => ?_)
    have hr := xB_rel hx hb hf
    rw [hxe] at hr
    obtain ⟨hbn, x0, c0, hv, hx0, hcap, hexc, hlc, htot⟩ := hr
    have hlm : len = n := by
      rcases hn with ⟨e, _⟩ | ⟨b', q', z', cp', ex', e⟩
      · rw [e] at hxe; cases hxe
      · rw [e] at hxe; cases hxe; rfl
    subst hlm
    have hx1 : x0 = r.off b + qo := hx0 (by omega)
    obtain ⟨_, rcs, t', f', hh, hzz, hcc, hfz⟩ := row_of hs (.inr hcs)
    obtain ⟨us, v1, v2, v3⟩ := getL_rel hcc _ qo hall
    have hrl : RelL r (repL len zs) (Builtin.zeroCells v'.cells len).toList := by
      have := repL_rel (hzr r) len
      rw [← made_flat] at this
      rw [zeroCells_made]
      exact this
    have hlen : (Builtin.zeroCells v'.cells len).toList.length = len * z := by rw [Array.length_toList, zeroCells_size, hzsz]
    have hroom : ∀ j, j < (Builtin.zeroCells v'.cells len).toList.length → ∃ v, rcs[r.off b + qo + j]? = some v := fun j hj => by
      obtain ⟨u, _, u2⟩ := v3 j (by rw [← hlen]; exact hj)
      exact ⟨u, u2⟩
    have hone : ∀ v ∈ (Builtin.zeroCells v'.cells len).toList, v.oneCell' = true := fun u hu' => by
      rw [zeroCells_made, made_flat] at hu'
      obtain ⟨l, hl, hvl⟩ := List.mem_flatten.1 hu'
      rw [List.eq_of_mem_replicate hl] at hvl
      exact ones_rel hzs.2 (hzr r) u hvl
    obtain ⟨s1, s2⟩ := put_ok hs hcs (q := qo) hrl (fun j hj => by
      obtain ⟨v, hv⟩ := hroom j hj
      exact ⟨_, _, _, v, hh, hv⟩)
    refine ⟨.tuple #[], _, r, ?_, trivial, s1, s2⟩
    rw [ex_builtin e' hc, args1 a ha, hv]
    refine run_v ?_
    obtain ⟨m, rfl⟩ : ∃ m, len = m + 1 := ⟨len - 1, by omega⟩
    have hst := run_put (P := P) hh hfz hroom hone
    rw [← hx1] at hst
    rw [← hx1]
    simp only [Builtin.clear_, ht, List.getElem?_toArray, List.getElem?_cons_zero, Sem.run_bind, run_und hu, Result.andThen_ok, hv', hst, Sem.run_pure]
end
end Go.Proofs.YtenpbpgoglepfaaGreatDoor
namespace Go.Proofs.YtenpbpgoglepfaaGreatDoor
open Go.RowKit
set_option linter.unusedVariables false

section
variable {P : Program} {NG : Env} {B0 N : Nat}
noncomputable def ckI (P : Program) (NG N : Nat) (mt : Mt) (o : Oper) (i : I) : Bool :=
  match i with
  | .mov x d => okMov NG N o x d || (match x with | .k (.i .i64 (.ofNat n)) => okLenA P o n d | _ => false)
  | .pick c a b d => okPick NG N o c a b d
  | .alc n z d => okAlc P NG N o n z d
  | .box n x d => okBox P NG N o n x d
  | .bld n z ps d => okBld P NG N o n z ps d
  | .bls z n zs ps d => okBls P NG N o z n zs ps d
  | .ld1 a d => okLd1 P NG N o a d
  | .ldn n a d => okLdn P NG N o n a d
  | .sto n a v => okSto P NG N o n a v
  | .nlc x d => (match x with | .k .np => true | _ => false) || okNlc NG N o x d
  | .ar g x y d => okAr NG N o g x y d
  | .cmp g x y d => okCmp NG N o g x y d
  | .eqv t g x y d => okEqv P NG N o t g x y d
  | .not x d => okNot NG N o x d
  | .cnv k x d => okCnv P NG N o k x d
  | .s2b x d => okS2b P NG N o x d
  | .b2s x d => okB2s P NG N o x d
  | .cat x y d => okCat NG N o x y d
  | .fld z x d => okFld P NG N o z x d
  | .idx z x i d => okIdx P NG N o z x i d
  | .ixa z n x i d => okIxa P NG N o z n x i d
  | .fi1 z x d => okFi1 P NG N o z x d
  | .fin z n x d => okFin P NG N o z n x d
  | .ina n x i d => okIna P NG N o n x i d
  | .ins x i d => okIns P NG N o x i d
  | .slc z x lo hi mx d => okSlc P NG N o z x lo hi mx d
  | .sls x lo hi d => okSls P NG N o x lo hi d
  | .mkf g fs cs d => okMkf NG N o g fs cs d
  | .mki t x d => okMki P NG N o t x d
  | .mkm d => okMkm o d
  | .mks z zs l c d => okMks P NG N o z zs l c d
  | .lok zv x k ok d => okLok P NG N o zv x k ok d
  | .mup m k v => okMup P NG N o m k v
  | .del m k d => okDel P NG N o m k d
  | .len g x d => okLen P NG N o g x d
  | .cap x d => okCap P NG N o x d
  | .app z x y d => okApp P NG N o z x y d
  | .aps x y d => okAps P NG N o x y d
  | .apz z zs x y d => okApz P NG N o z zs x y d
  | .cpy z x y d => okCpy P NG N o z x y d
  | .clr z zs x d => okClr P NG N o z zs x d
  | .mnx g x y d => okMnx NG N o g x y d
  | .ext i x d => okExt NG N o i x d
  | .call g as_ d => okCall NG N o g as_ d
  | .cald x as_ d => okCald NG N o x as_ d
  | .inv tb x as_ d => okInv NG N mt o tb x as_ d
  | .yld _ _ _ => false
  | .gd _ _ _ _ _ => false
/-- What is known of the program. -/
structure Kn (P : Program) (mt : Mt) : Prop where
  eqT : EqT P
  mt : MtOk P mt
theorem snd_ck {mt : Mt} (hk : Kn P mt) {o : Oper} {i : I} (h : ckI P NG N mt o i = true) : Snd P NG B0 N (COk P NG B0) o i := by
  cases i with
  | mov x d =>
    simp only [ckI, Bool.or_eq_true] at h
    rcases h with h | h
    · exact snd_mov h
    · split at h
      · exact snd_lenA h
      · cases h
  | pick c a b d => exact snd_pick h
  | alc n z d => exact snd_alc h
  | box n x d => exact snd_box h
  | bld n z ps d => exact snd_bld h
  | bls z n zs ps d => exact snd_bls h
  | ld1 a d => exact snd_ld1 h
  | ldn n a d => exact snd_ldn h
  | sto n a v => exact snd_sto h
  | nlc x d =>
    simp only [ckI, Bool.or_eq_true] at h
    rcases h with h | h
    · split at h
      · exact snd_bad
      · cases h
    · exact snd_nlc h
  | ar g x y d => exact snd_ar h
  | cmp g x y d => exact snd_cmp h
  | eqv t g x y d => exact snd_eqv hk.eqT h
  | not x d => exact snd_not h
  | cnv k x d => exact snd_cnv h
  | s2b x d => exact snd_s2b h
  | b2s x d => exact snd_b2s h
  | cat x y d => exact snd_cat h
  | fld z x d => exact snd_fld h
  | idx z x i d => exact snd_idx h
  | ixa z n x i d => exact snd_ixa h
  | fi1 z x d => exact snd_fi1 h
  | fin z n x d => exact snd_fin h
  | ina n x i d => exact snd_ina h
  | ins x i d => exact snd_ins h
  | slc z x lo hi mx d => exact snd_slc h
  | sls x lo hi d => exact snd_sls h
  | mkf g fs cs d => exact snd_mkf h
  | mki t x d => exact snd_mki h
  | mkm d => exact snd_mkm h
  | mks z zs l c d => exact snd_mks h
  | lok zv x k ok d => exact snd_lok h
  | mup m k v => exact snd_mup h
  | del m k d => exact snd_del h
  | len g x d => exact snd_len h
  | cap x d => exact snd_cap h
  | app z x y d => exact snd_app h
  | aps x y d => exact snd_aps h
  | apz z zs x y d => exact snd_apz h
  | cpy z x y d => exact snd_cpy h
  | clr z zs x d => exact snd_clr h
  | mnx g x y d => exact snd_mnx h
  | ext i x d => exact snd_ext h
  | call g as_ d => exact snd_call h
  | cald x as_ d => exact snd_cald h
  | inv tb x as_ d => exact snd_inv hk.mt h
  | yld _ _ _ => cases h
  | gd _ _ _ _ _ => cases h
/-- What is known of a round that is called. -/
def YOk (P : Program) (NG : Env) (B0 : Nat) (c : CallE) : Prop := ∀ b ar s v s', c yN (.cons (.y b) ar) s = .ok v s' → ∀ (r : Rho) (w : World) (vals : Array Value), Base NG r → Sim B0 r s w → r.has b → RelL r ar vals.toList →
  YieldAt (Wd none) 0 P (r.blk b) vals w fun e w' => ∃ x, e = .returned x ∧ ∃ r', Rel r' v x ∧ Sim B0 r' s' w' ∧ Stp r s w r' s' w'
def CAll (P : Program) (NG : Env) (B0 : Nat) (c : CallE) : Prop := COk P NG B0 c ∧ YOk P NG B0 c
noncomputable def okYld (NG N : Nat) (o : Oper) (x : X) (as_ : List X) (d : D) : Bool := dB o.dst d && (match o.op with
  | .call c => (match c.callee with | .value p => xB NG N p x && xsB NG N c.args.toList as_ | _ => false)
  | _ => false)
theorem snd_yld {ro : Option Nat} {o : Oper} {x : X} {as_ : List X} {d : D} (h : okYld NG N o x as_ d = true) (hdf : noDf o = true) : SndI P NG B0 N (CAll P NG B0) ro o (.yld x as_ d) := fun c hc fr s => by
  simp only [okYld, Bool.and_eq_true] at h
  obtain ⟨hd, h⟩ := h
  split at h
  case h_2 => cases h
  rename_i cl e'
  split at h
  case h_2 => cases h
  rename_i p hcl
  simp only [Bool.and_eq_true] at h
  show Ct (hYld x as_ d c fr s) _
  unfold hYld
  refine Ct.onY fun b ex => Ct.onRC fun v s' e => Ct.fin fun r w a hb hs hf Q K hK => ?_
  have hr := xB_rel h.1 hb hf
  rw [ex] at hr
  obtain ⟨hhas, hv⟩ := hr
  obtain ⟨fn, tmps, asg, bd, e1, e2⟩ := hc.2 _ _ _ _ _ e r w (cl.args.map a.eval) hb hs hhas (by rw [Array.toList_map]; exact xsB_rel hb hf h.2)
  have e3 : (execOp a.eval o).run P w = .ok (.round (r.blk b) fn tmps asg bd) w := by
    rw [ex_call e']
    unfold resolve
    rw [hcl]
    show (do let d ← Deferred.ofValue (a.eval p) (cl.args.map a.eval); invoke d.target d.args : Sem Next).run P w = _
    rw [hv]
    show (Instr.yield (r.blk b) ((#[] ++ cl.args.map a.eval) ++ #[])).run P w = _
    rw [Array.append_empty, Array.empty_append]
    exact e1
  refine ⟨fun _ _ => trivial, ?_⟩
  rw [show (Wd ro).round = ro from rfl, Oper.semAt_eq ro a.eval o (noDf_eq hdf), e3, Oper.uponIn_round]
  have e4 : RoundIn (Wd ro) (0 - 1) P (r.blk b) fn tmps asg bd w _ := e2
  refine ⟨fun e => (by cases e), e4.mono fun e w' => ?_⟩
  rintro ⟨x, rfl, r', h1, h2, h3⟩
  exact hK _ _ r' h2 h3 ((hf.le h3.le).put hd h1) (put_dfr _ _ _)
/-- One check over all instructions, in a round or in none. -/
noncomputable def ckJ (P : Program) (NG N : Nat) (mt : Mt) (o : Oper) (i : I) : Bool := noDf o && (match i with
  | .yld x l d => okYld NG N o x l d
  | _ => ckI P NG N mt o i)
theorem snd_cj {mt : Mt} (hk : Kn P mt) {ro : Option Nat} {o : Oper} {i : I} (h : ckJ P NG N mt o i = true) : SndI P NG B0 N (CAll P NG B0) ro o i := by
  simp only [ckJ, Bool.and_eq_true] at h
  obtain ⟨hdf, h⟩ := h
  have plain : ckI P NG N mt o i = true → SndI P NG B0 N (CAll P NG B0) ro o i := fun h c hc => (snd_ck hk h).toI hdf c hc.1
  cases i with
  | yld x l d => exact snd_yld h hdf
  | _ => exact plain h
end
end Go.Proofs.YtenpbpgoglepfaaGreatDoor
namespace Go.Proofs.YtenpbpgoglepfaaGreatDoor
open Go.RowKit
set_option linter.unusedVariables false

section
variable {P : Program} {NG : Env} {B0 N : Nat}
/-- The first slots, from the n-th on, hold a list. -/
noncomputable def inF (l : AV) : Nat → Fr → Fr := AV.fold l (fun v (r : Nat → Fr → Fr) n fr => r (Nat.succ n) (F.mod .h0 (F.mod (toH0 n) (fun _ => v)) fr)) (fun _ fr => fr)
open Classical in
theorem inF_get {l : AV} (hl : IsL l) : ∀ (n : Nat) (fr : Fr) (h q : H), n + lenL l ≤ 16 → F.get q (F.get h (inF l n fr)) = if h = .h0 ∧ n ≤ q.num ∧ q.num < n + lenL l then nthL l (q.num - n) else F.get q (F.get h fr) := by
  induction hl with
  | nil =>
    intro n fr h q hn
    rw [if_neg (fun e => by have : lenL .nil = 0 := rfl; omega)]
    rfl
  | @cons x l hl ih =>
    intro n fr h q hn
    rw [lenL_cons] at hn
    have e : inF (.cons x l) n fr = inF l (n + 1) (D.put (.to .h0 (toH0 n)) x fr) := rfl
    rw [e, ih (n + 1) _ h q (by omega), D.get_put, lenL_cons]
    have hnum : (toH0 n).num = n := num_toH n (by omega)
    by_cases hh : h = .h0
    · subst hh
      by_cases h1 : n + 1 ≤ q.num ∧ q.num < n + 1 + lenL l
      · rw [if_pos ⟨rfl, h1⟩, if_pos ⟨rfl, by omega, by omega⟩]
        obtain ⟨k, hk⟩ : ∃ k, q.num - n = k + 1 := ⟨q.num - n - 1, by omega⟩
        rw [hk, show q.num - (n + 1) = k by omega]
        rfl
      · rw [if_neg (fun e => h1 e.2)]
        by_cases hq : q = toH0 n
        · subst hq
          rw [if_pos ⟨rfl, rfl⟩, if_pos ⟨rfl, by omega, by omega⟩, hnum, Nat.sub_self]
          rfl
        · have hne : q.num ≠ n := fun e => hq (num_inj (by rw [hnum, e]))
          rw [if_neg (fun e => hq e.2), if_neg (fun e => by omega)]
    · rw [if_neg (fun e => hh e.1), if_neg (fun e => hh e.1), if_neg (fun e => hh e.1)]
theorem frame_in {r : Rho} {ar : AV} {args : Array Value} (hr : RelL r ar args.toList) {nt n : Nat} (h1 : lenL ar ≤ nt) (h2 : nt ≤ 16) (h3 : nt ≤ n) : FrR n r (inFr ar) { tmps := args ++ Array.replicate (n - args.size) undef, defers := [] } := by
  have hl := relL_len hr
  rw [Array.length_toList] at hl
  refine ⟨?_, fun h q v hv => ?_⟩
  · show (args ++ Array.replicate (n - args.size) undef).size = n
    rw [Array.size_append, Array.size_replicate]
    omega
  · have e : inFr ar = inF ar 0 emptyFr := rfl
    rw [e, inF_get (relL_isL hr) 0 emptyFr h q (by omega)]
    by_cases hh : h = .h0 ∧ 0 ≤ q.num ∧ q.num < 0 + lenL ar
    · rw [if_pos hh, Nat.sub_zero]
      obtain ⟨rfl, _, hq⟩ := hh
      have hs : slotN .h0 q = q.num := by unfold slotN; show 16 * 0 + q.num = q.num; omega
      rw [hs] at hv
      have hv' : (args ++ Array.replicate (n - args.size) undef)[q.num]? = some v := hv
      rw [Array.getElem?_append_left (by omega)] at hv'
      by_cases hu : nthL ar q.num = .u
      · rw [hu]; trivial
      · obtain ⟨u, hu1, hu2⟩ := nthL_rel q.num hr hu
        rw [Array.getElem?_toList, hv'] at hu1
        cases hu1
        exact hu2
    · rw [if_neg hh]
      have e2 : F.get q (F.get h emptyFr) = .u := by
        show F.get q (F.get h (F.all (F.all AV.u))) = .u
        rw [F.get_all, F.get_all]
      rw [e2]
      trivial
/-- Results. -/
noncomputable def ckRV (P : Program) (N : Nat) : ResultVar → RV → Bool
  | .tmp t, .t x => xB 0 N (.tmp t) x
  | .cell a ty, .c1 x => xB 0 N (.tmp a) x && aggB P ty false
  | .cell a ty, .cn n x => xB 0 N (.tmp a) x && aggB P ty true && szB P ty n
  | _, _ => false
noncomputable def ckRVs (P : Program) (N : Nat) : List ResultVar → List RV → Bool
  | [], [] => true
  | v :: l, x :: m => ckRV P N v x && ckRVs P N l m
  | _, _ => false
def resOf (tmps : Array Value) : ResultVar → Sem Value
  | .tmp t => pure (tmps.getD t undef)
  | .cell a t => do loadVar t (← asAddr (tmps.getD a undef))
theorem xB_tmp {N t : Nat} {x : X} (h : xB 0 N (.tmp t) x = true) {r : Rho} {fr : Fr} {a : Act} (hf : FrR N r fr a) : Rel r (X.ev x fr) (a.tmps.getD t undef) := by
  cases x with
  | k v => cases h
  | t p q =>
    simp only [xB, Bool.and_eq_true, beq_iff_eq, decide_eq_true_eq] at h
    have : t < a.tmps.size := by rw [hf.size]; exact h.2
    rw [Array.getD_eq_getD_getElem?, Array.getElem?_eq_getElem this]
    exact hf.get p q _ (by rw [← h.1]; exact Array.getElem?_eq_getElem this)
theorem rv_ok {v : ResultVar} {x : RV} (h : ckRV P N v x = true) (fr : Fr) (s : St) : (∀ f, evRV x fr s f = .bad) ∨ ∃ av, (∀ f, evRV x fr s f = f av) ∧ ∀ (r : Rho) (w : World) (a : Act), Sim B0 r s w → FrR N r fr a → ∃ u, (resOf a.tmps v).run P w = .ok u w ∧ Rel r av u := by
  cases v with
  | tmp t =>
    cases x with
    | t x => exact .inr ⟨X.ev x fr, fun _ => rfl, fun r w a hs hf => ⟨_, rfl, xB_tmp h hf⟩⟩
    | c1 _ => cases h
    | cn _ _ => cases h
  | cell t ty =>
    cases x with
    | t x => cases h
    | c1 x =>
      simp only [ckRV, Bool.and_eq_true] at h
      have e : ∀ f, evRV (.c1 x) fr s f = AV.onP (X.ev x fr) .bad fun b o => GB.onR (Hp.get s.h b) .bad fun cs => AV.isU (Cs.get cs o) (f (Cs.get cs o)) .bad := fun _ => rfl
      simp only [e]
      cases hx : X.ev x fr <;> try exact .inl fun _ => rfl
      rename_i b q
      rcases hg : Hp.get s.h b with _ | cs | cs | _ | _
      · exact .inl fun f => by show GB.onR (Hp.get s.h b) _ _ = _; rw [hg]; rfl
      · by_cases hu : Cs.get cs q = .u
        · exact .inl fun f => by show GB.onR (Hp.get s.h b) _ _ = _; rw [hg]; show AV.isU (Cs.get cs q) _ _ = _; rw [hu]; rfl
        · refine .inr ⟨Cs.get cs q, fun f => by
            show GB.onR (Hp.get s.h b) _ _ = _
            rw [hg]
            show AV.isU (Cs.get cs q) _ _ = _
            cases hc : Cs.get cs q <;> first | rfl | exact absurd hc hu, fun r w a hs hf => ?_⟩
          have hr := xB_tmp h.1 hf
          rw [hx] at hr
          simp only [Rel] at hr
          obtain ⟨_, rcs, t', f', hh, hz, hcc, hfz⟩ := row_of hs (.inl hg)
          obtain ⟨u, hu1, hu2⟩ := hcc q hu
          refine ⟨u, ?_, hu2⟩
          show (do loadVar ty (← asAddr (a.tmps.getD t undef)) : Sem Value).run P w = _
          rw [hr.2]
          simp only [asAddr, Sem.run_bind, Sem.run_pure, Result.andThen_ok, loadVar, aggB_eq h.2, Bool.false_eq_true, if_false, run_load, cell_at hh, hu1]
      · by_cases hu : Cs.get cs q = .u
        · exact .inl fun f => by show GB.onR (Hp.get s.h b) _ _ = _; rw [hg]; show AV.isU (Cs.get cs q) _ _ = _; rw [hu]; rfl
        · refine .inr ⟨Cs.get cs q, fun f => by
            show GB.onR (Hp.get s.h b) _ _ = _
            rw [hg]
            show AV.isU (Cs.get cs q) _ _ = _
            cases hc : Cs.get cs q <;> first | rfl | exact absurd hc hu, fun r w a hs hf => ?_⟩
          have hr := xB_tmp h.1 hf
          rw [hx] at hr
          simp only [Rel] at hr
          obtain ⟨_, rcs, t', f', hh, hz, hcc, hfz⟩ := row_of hs (.inr hg)
          obtain ⟨u, hu1, hu2⟩ := hcc q hu
          refine ⟨u, ?_, hu2⟩
          show (do loadVar ty (← asAddr (a.tmps.getD t undef)) : Sem Value).run P w = _
          rw [hr.2]
          simp only [asAddr, Sem.run_bind, Sem.run_pure, Result.andThen_ok, loadVar, aggB_eq h.2, Bool.false_eq_true, if_false, run_load, cell_at hh, hu1]
      · exact .inl fun f => by show GB.onR (Hp.get s.h b) _ _ = _; rw [hg]; rfl
      · exact .inl fun f => by show GB.onR (Hp.get s.h b) _ _ = _; rw [hg]; rfl
    | cn n x =>
      simp only [ckRV, Bool.and_eq_true] at h
      have e : ∀ f, evRV (.cn n x) fr s f = AV.onP (X.ev x fr) .bad fun b o => GB.onR (Hp.get s.h b) .bad fun cs => ifB (allOne (Cs.getL cs n o)) (f (.agg (Cs.getL cs n o))) .bad := fun _ => rfl
      simp only [e]
      cases hx : X.ev x fr <;> try exact .inl fun _ => rfl
      rename_i b q
      have main : ∀ cs, (Hp.get s.h b = .ro cs ∨ Hp.get s.h b = .rw cs) → (∀ f : AV → RC, GB.onR (Hp.get s.h b) .bad (fun cs => ifB (allOne (Cs.getL cs n q)) (f (.agg (Cs.getL cs n q))) .bad) = ifB (allOne (Cs.getL cs n q)) (f (.agg (Cs.getL cs n q))) .bad) →
          (∀ f : AV → RC, AV.onP (.p b q) .bad (fun b o => GB.onR (Hp.get s.h b) .bad fun cs => ifB (allOne (Cs.getL cs n o)) (f (.agg (Cs.getL cs n o))) .bad) = .bad) ∨ ∃ av, (∀ f : AV → RC, AV.onP (.p b q) .bad (fun b o => GB.onR (Hp.get s.h b) .bad fun cs => ifB (allOne (Cs.getL cs n o)) (f (.agg (Cs.getL cs n o))) .bad) = f av) ∧ ∀ (r : Rho) (w : World) (a : Act), Sim B0 r s w → FrR N r fr a → ∃ u, (resOf a.tmps (.cell t ty)).run P w = .ok u w ∧ Rel r av u := fun cs hcs he => by
        rcases ha : allOne (Cs.getL cs n q) with _ | _
        · exact .inl fun f => (he f).trans (by rw [ha]; rfl)
        · refine .inr ⟨.agg (Cs.getL cs n q), fun f => (he f).trans (by rw [ha]; rfl), fun r w a hs hf => ?_⟩
          have hr := xB_tmp h.1.1 hf
          rw [hx] at hr
          simp only [Rel] at hr
          obtain ⟨_, rcs, t', f', hh, hz, hcc, hfz⟩ := row_of hs hcs
          obtain ⟨vs, v1, v2, v3⟩ := getL_rel hcc _ q ha
          refine ⟨.agg vs.toArray, ?_, ⟨_, rfl, v1⟩⟩
          show (do loadVar ty (← asAddr (a.tmps.getD t undef)) : Sem Value).run P w = _
          have hl : (loadCells ⟨r.blk b, r.off b + q, none⟩ n).run P w = .ok vs.toArray w := by
            rw [← v2]
            refine run_loadCells_list w _ vs fun j v hj => ?_
            rw [Addr.add_mid, cell_at hh]
            obtain ⟨u, u1, u2⟩ := v3 j (by rw [← v2]; exact (List.getElem?_eq_some_iff.1 hj).1)
            rw [u2, ← u1, hj]
          rw [hr.2]
          simp only [asAddr, Sem.run_bind, Sem.run_pure, Result.andThen_ok, loadVar, aggB_eq h.1.2, if_true, run_size (szB_eq h.2), hl]
      rcases hg : Hp.get s.h b with _ | cs | cs | _ | _
      · exact .inl fun f => by show GB.onR (Hp.get s.h b) _ _ = _; rw [hg]; rfl
      · exact main cs (.inl hg) (fun f => by rw [hg]; rfl)
      · exact main cs (.inr hg) (fun f => by rw [hg]; rfl)
      · exact .inl fun f => by show GB.onR (Hp.get s.h b) _ _ = _; rw [hg]; rfl
      · exact .inl fun f => by show GB.onR (Hp.get s.h b) _ _ = _; rw [hg]; rfl
theorem rvs_ok {fr : Fr} {s : St} : ∀ {l : List ResultVar} {m : List RV}, ckRVs P N l m = true → (∀ f, evRVs m fr s f = .bad) ∨ ∃ av, (∀ f, evRVs m fr s f = f av) ∧ ∀ (r : Rho) (w : World) (a : Act), Sim B0 r s w → FrR N r fr a → ∃ us, (l.mapM (resOf a.tmps) : Sem (List Value)).run P w = .ok us w ∧ RelL r av us
  | [], [], _ => .inr ⟨.nil, fun _ => rfl, fun r w a _ _ => ⟨[], rfl, rfl⟩⟩
  | v :: l, x :: m, h => by
    simp only [ckRVs, Bool.and_eq_true] at h
    have e : ∀ f, evRVs (x :: m) fr s f = evRV x fr s fun a => evRVs m fr s fun l => f (.cons a l) := fun _ => rfl
    rcases rv_ok (B0 := B0) h.1 fr s with h1 | ⟨av, h1, h2⟩
    · exact .inl fun f => (e f).trans (h1 _)
    · rcases rvs_ok (fr := fr) (s := s) h.2 with k1 | ⟨bv, k1, k2⟩
      · exact .inl fun f => (e f).trans ((h1 _).trans (k1 _))
      · refine .inr ⟨.cons av bv, fun f => (e f).trans ((h1 _).trans (k1 _)), fun r w a hs hf => ?_⟩
        obtain ⟨u, u1, u2⟩ := h2 r w a hs hf
        obtain ⟨us, w1, w2⟩ := k2 r w a hs hf
        refine ⟨u :: us, ?_, ⟨_, _, rfl, u2, w2⟩⟩
        rw [List.mapM_cons]
        simp only [Sem.run_bind, u1, Result.andThen_ok, w1, Sem.run_pure]
  | [], _ :: _, h => by cases h
  | _ :: _, [], h => by cases h
theorem oneOr_rel {r : Rho} {l : AV} {us : List Value} (h : RelL r l us) : Rel r (oneOr l) (if h : us.toArray.size = 1 then us.toArray[0] else .tuple us.toArray) := by
  have hl := relL_isL h
  cases hl with
  | nil =>
    simp only [RelL] at h
    subst h
    exact ⟨_, rfl, rfl⟩
  | @cons x l hl =>
    obtain ⟨v, vs, rfl, h1, h2⟩ := h
    cases hl with
    | nil =>
      simp only [RelL] at h2
      subst h2
      exact h1
    | @cons y l hl =>
      obtain ⟨v2, vs2, rfl, h3, h4⟩ := h2
      have : ¬ (v :: v2 :: vs2).toArray.size = 1 := by simp
      rw [dif_neg this]
      exact ⟨_, rfl, ⟨_, _, rfl, h1, ⟨_, _, rfl, h3, h4⟩⟩⟩
theorem results_ok {fn : Func} {tmps : Array Value} {w : World} {us : List Value} (h : (fn.results.toList.mapM (resOf tmps) : Sem (List Value)).run P w = .ok us w) : (results fn tmps).run P w = .ok (if h : us.toArray.size = 1 then us.toArray[0] else .tuple us.toArray) w := by
  show ((do let vs ← fn.results.mapM (resOf tmps); pure (if h : vs.size = 1 then vs[0] else .tuple vs)) : Sem Value).run P w = _
  rw [Sem.run_bind, Array.mapM_eq_mapM_toList, Sem.run_map, h]
  rfl
/-- On the way out of an activation: the blocks that its loops over functions have left are shut. -/
theorem leaves_df {fn : Func} {tmps : Array Value} {R : Ending → World → Prop} {r r0 : Rho} {s s0 : St} {w0 : World} : ∀ {l : List Deferred} {w : World}, DfOk w0.heap.size r s w l → Sim B0 r s w → Stp r0 s0 w0 r s w →
    (∀ w', Sim B0 r s w' → Stp r0 s0 w0 r s w' → ∃ v, (results fn tmps).run P w' = .ok v w' ∧ R (.returned v) w') → LeavesInM (Wd none) 0 P fn tmps R l .returning w
  | [], w, h, hs, hst, hR => hR w hs hst
  | d :: l, w, h, hs, hst, hR => by
    obtain ⟨D, rfl, h0, h2, h3⟩ := h.all d List.mem_cons_self
    have hlt := (Array.getElem?_eq_some_iff.1 h2).1
    have hne : ∀ b, Hp.get s.h b ≠ .no → r.blk b ≠ D := fun b hb => by
      have := hs.ok b
      cases e : Hp.get s.h b with
      | no => exact absurd e hb
      | ro c => rw [e] at this; intro e2; obtain ⟨cs, t, h4⟩ := this.2.2; rw [e2, h2] at h4; cases h4
      | rw c => exact h3 b (by rw [e]; trivial)
      | mp c => exact h3 b (by rw [e]; trivial)
      | lp c => exact h3 b (by rw [e]; trivial)
    have hoth : ∀ x, x ≠ D → (w.putObj D (.deferred none)).heap[x]? = w.heap[x]? := fun x hx => World.putObj_heap_other hx
    have hsz : (w.putObj D (.deferred none)).heap.size = w.heap.size := by simp [World.putObj]
    refine ⟨by simp, .inl ⟨D, w.putObj D (.deferred none), rfl, run_takeDeferred h2, leaves_df ⟨by rw [hsz]; exact h.hlo, fun d' hd' => ?_, (List.nodup_cons.1 h.ne).2⟩ ?_ ?_ hR⟩⟩
    · obtain ⟨D', rfl, k0, k2, k3⟩ := h.all d' (List.mem_cons_of_mem _ hd')
      refine ⟨D', rfl, k0, ?_, k3⟩
      rw [hoth D' (fun e => (List.nodup_cons.1 h.ne).1 (by rw [← e]; exact hd'))]
      exact k2
    · refine ⟨hs.n, hs.lt, by rw [hsz]; exact hs.low, fun b => ?_, hs.inj, hs.ety.to (hoth _ fun e => by
      obtain ⟨_, ty, f, hh⟩ := hs.ety
      rw [e, h2] at hh
      cases hh)⟩
      by_cases hb : Hp.get s.h b = .no
      · rw [hb]; trivial
      · exact OkB.le (hs.ok b) (.refl r) (hoth _ (hne b hb))
    · exact ⟨hst.le, hst.os, hst.tape, hst.output, by rw [hsz]; exact hst.size, fun x hx hn => by rw [hoth x (by omega)]; exact hst.keep x hx hn, hst.new, hst.old⟩
end
end Go.Proofs.YtenpbpgoglepfaaGreatDoor
namespace Go.Proofs.YtenpbpgoglepfaaGreatDoor
open Go.RowKit
set_option linter.unusedVariables false

/-- A block more: a loop's record. -/
def Rho.pushL (r : Rho) (x : Nat) (rec : Loop) : Rho := ⟨r.n + 1, fun b => r.has b ∨ b = r.n, fun b => if b = r.n then x else r.blk b, fun b => if b = r.n then 0 else r.off b, fun b => if b = r.n then 0 else r.tot b, fun b => if b = r.n then rec else r.lp b, r.opq⟩
section
variable {P : Program} {NG : Env} {B0 N : Nat} {r : Rho} {s : St} {w w' : World}
/-- A world that has more. -/
theorem Sim.more (h : Sim B0 r s w) (hb : Below w.heap.size w w') : Sim B0 r s w' ∧ Stp r s w r s w' :=
  ⟨⟨h.n, h.lt, Nat.le_trans h.low hb.size, fun b => by
    by_cases hno : Hp.get s.h b = .no
    · rw [hno]; trivial
    · exact OkB.le (h.ok b) (.refl r) (hb.block _ ((h.ok b).lt hno).2), h.inj, h.ety.to (hb.block _ (by have := h.ety.1; have := h.low; omega))⟩, ⟨.refl r, hb.os, hb.tape, hb.output, hb.size, fun x hx _ => hb.block x hx, fun _ h => .inl h, fun b h => .inl ⟨b, h, rfl⟩⟩⟩
/-- Behind a loop's new record. -/
theorem Sim.newL (h : Sim B0 r s w) (rec : Loop) : Sim B0 (r.pushL w.heap.size rec) (.mk (Hp.put s.h s.n (.lp 0)) (Nat.succ s.n)) (w.alloc (.loop (lpAt rec 0))) ∧ Stp r s w (r.pushL w.heap.size rec) (.mk (Hp.put s.h s.n (.lp 0)) (Nat.succ s.n)) (w.alloc (.loop (lpAt rec 0))) := by
  have hle : r.Le (r.pushL w.heap.size rec) := ⟨Nat.le_succ _, fun b hb => by have := h.lt b hb; simp [Rho.pushL, show b ≠ r.n by omega, hb], fun b hb => by have := h.lt b hb; simp [Rho.pushL, show b ≠ r.n by omega], rfl⟩
  have hat : (r.pushL w.heap.size rec).blk r.n = w.heap.size := by simp [Rho.pushL]
  have hold : ∀ b, Hp.get s.h b ≠ .no → r.has b ∧ r.blk b < w.heap.size := fun b hb => (h.ok b).lt hb
  have hlow := h.low
  refine ⟨⟨?_, fun b hb => ?_, ?_, fun b => ?_, fun b b' hb hb' e => ?_, h.ety.to (Below.heap_alloc w _ _ (by have := h.ety.1; omega))⟩, ⟨hle, rfl, rfl, rfl, by simp, fun x hx _ => Below.heap_alloc w _ x hx, fun b hb => ?_, fun b hb => ?_⟩⟩
  · show Nat.succ s.n = r.n + 1; rw [h.n]
  · rcases hb with hb | hb
    · exact Nat.lt_succ_of_lt (h.lt b hb)
    · rw [hb]; exact Nat.lt_succ_self _
  · simp; omega
  · rw [St.h_mk]
    rcases Hp.get_put s.h s.n (.lp 0) b with e | ⟨rfl, e⟩ | ⟨hn, e⟩
    · rw [e]; trivial
    · rw [e, h.n]
      refine ⟨.inr rfl, by rw [hat]; exact hlow, ?_⟩
      rw [hat, World.alloc_heap_new]
      simp [Rho.pushL]
    · rw [e]
      by_cases hno : Hp.get s.h b = .no
      · rw [hno]; trivial
      · exact OkB.le (h.ok b) hle (Below.heap_alloc w _ _ (hold b hno).2)
  · rw [St.h_mk] at hb hb'
    rcases live_put hb with ⟨e1, e2⟩ | ⟨e1, e2⟩ <;> rcases live_put hb' with ⟨k1, k2⟩ | ⟨k1, k2⟩
    · rw [e1, k1]
    · exfalso
      rw [k2] at hb'
      obtain ⟨q1, q2⟩ := hold b' (live_ne hb')
      rw [e1, h.n, hat, (hle.same b' q1).2.1] at e
      omega
    · exfalso
      rw [e2] at hb
      obtain ⟨q1, q2⟩ := hold b (live_ne hb)
      rw [k1, h.n, hat, (hle.same b q1).2.1] at e
      omega
    · rw [e2] at hb
      rw [k2] at hb'
      rw [(hle.same b (hold b (live_ne hb)).1).2.1, (hle.same b' (hold b' (live_ne hb')).1).2.1] at e
      exact h.inj b b' hb hb' e
  · rcases hb with hb | hb
    · exact .inl hb
    · exact .inr (by rw [hb]; exact Nat.le_refl _)
  · rw [St.h_mk] at hb
    rcases live_put hb with ⟨e1, e2⟩ | ⟨e1, e2⟩
    · right; rw [e1, h.n, hat]; exact Nat.le_refl _
    · left
      rw [e2] at hb
      exact ⟨b, hb, by rw [(hle.same b (hold b (live_ne hb)).1).2.1]⟩
/-- A loop's record, in the world. -/
theorem Sim.loop_at (h : Sim B0 r s w) {b p : Nat} (e : Hp.get s.h b = .lp p) : r.has b ∧ B0 ≤ r.blk b ∧ w.heap[r.blk b]? = some (.loop (lpAt (r.lp b) p)) := by
  have := h.ok b
  rw [e] at this
  exact this
/-- .. that is written. -/
theorem Sim.loop_put (h : Sim B0 r s w) {b p q : Nat} (e : Hp.get s.h b = .lp p) : Sim B0 r (.mk (Hp.put s.h b (.lp q)) s.n) (w.putObj (r.blk b) (.loop (lpAt (r.lp b) q))) ∧ Stp r s w r (.mk (Hp.put s.h b (.lp q)) s.n) (w.putObj (r.blk b) (.loop (lpAt (r.lp b) q))) := by
  obtain ⟨h1, h2, h3⟩ := h.loop_at e
  have hlt := (Array.getElem?_eq_some_iff.1 h3).1
  exact h.wrote b (.lp q) (by rw [e]; trivial) ⟨h1, h2, World.putObj_heap_same hlt⟩ rfl rfl rfl (by simp [World.putObj]) fun x _ hx => World.putObj_heap_other hx
/-- .. that is given up. -/
theorem Sim.loop_end (h : Sim B0 r s w) {b p : Nat} (e : Hp.get s.h b = .lp p) (o : Obj) : Sim B0 r (.mk (Hp.put s.h b .no) s.n) (w.putObj (r.blk b) o) ∧ Stp r s w r (.mk (Hp.put s.h b .no) s.n) (w.putObj (r.blk b) o) :=
  h.wrote b .no (by rw [e]; trivial) trivial rfl rfl rfl (by simp [World.putObj]) fun x _ hx => World.putObj_heap_other hx
theorem lpGo_eq {β : Type} {b p q : Nat} {s : St} {bad : β} {f : St → β} : lpGo b p q s bad f = bad ∨ (Hp.get s.h b = .lp p ∧ lpGo b p q s bad f = f (.mk (Hp.put s.h b (.lp q)) s.n)) := by
  unfold lpGo
  cases e : Hp.get s.h b with
  | lp p' =>
    show ifB (Nat.beq p' p) _ _ = _ ∨ _ ∧ ifB (Nat.beq p' p) _ _ = _
    rcases hb : Nat.beq p' p with _ | _
    · exact .inl rfl
    · obtain rfl := Nat.eq_of_beq_eq_true hb
      exact .inr ⟨rfl, rfl⟩
  | _ => exact .inl rfl
/-- The places of a round's arguments. -/
noncomputable def psB : List Tmp → List D → Bool
  | [], [] => true
  | t :: ts, d :: ds => dB (some t) d && psB ts ds
  | _, _ => false
theorem psB_len : ∀ {ts : List Tmp} {ds : List D}, psB ts ds = true → ts.length = ds.length
  | [], [], _ => rfl
  | t :: ts, d :: ds, h => by simp only [psB, Bool.and_eq_true] at h; simp [psB_len h.2]
  | [], _ :: _, h => by cases h
  | _ :: _, [], h => by cases h
theorem ps_put {r : Rho} : ∀ {ts : List Tmp} {ds : List D} {l : AV} {vs : List Value} {fr : Fr} {tmps : Array Value}, psB ts ds = true → RelL r l vs → FrR N r fr { tmps := tmps, defers := [] } →
    FrR N r (psPut ds l fr) { tmps := (ts.zip vs).foldl (fun t p => t.setIfInBounds p.1 p.2) tmps, defers := [] }
  | [], [], l, vs, fr, tmps, _, _, hf => by
    show FrR N r fr { tmps := ([].zip vs).foldl _ tmps, defers := [] }
    rw [List.zip_nil_left]
    exact hf
  | t :: ts, d :: ds, l, vs, fr, tmps, h, hr, hf => by
    simp only [psB, Bool.and_eq_true] at h
    cases l with
    | nil =>
      simp only [RelL] at hr
      subst hr
      show FrR N r fr { tmps := ((t :: ts).zip []).foldl _ tmps, defers := [] }
      rw [List.zip_nil_right]
      exact hf
    | cons x l =>
      obtain ⟨v, vs, rfl, h1, h2⟩ := hr
      have hput := hf.put h.1 h1
      have e : ({ tmps := tmps, defers := [] } : Act).put (some t) v = { tmps := tmps.setIfInBounds t v, defers := [] } := rfl
      rw [e] at hput
      show FrR N r (psPut ds l (D.put d x fr)) { tmps := (ts.zip vs).foldl _ (tmps.setIfInBounds t v), defers := [] }
      exact ps_put h.2 h2 hput
    | _ => simp [RelL] at hr
  | [], _ :: _, _, _, _, _, h, _, _ => by cases h
  | _ :: _, [], _, _, _, _, h, _, _ => by cases h
theorem Base.env {r1 : Rho} (h : Base NG r) (hl : r.Le r1) {r' : Rho} (hb : Base ⟨NG.ng, some r1, NG.opq⟩ r') : Base NG r' := by
  have := hb.from_ r1 rfl
  exact ⟨hb.glob, fun r0 e => ((h.from_ r0 e).trans hl).trans this, hb.few, hb.inj, hb.opq⟩
end
end Go.Proofs.YtenpbpgoglepfaaGreatDoor
namespace Go.Proofs.YtenpbpgoglepfaaGreatDoor
open Go.RowKit
set_option linter.unusedVariables false

section
variable {P : Program} {NG : Env} {B0 N : Nat}
theorem COk.env {r r1 : Rho} {c : CallE} (hb : Base NG r) (hl : r.Le r1) (h : COk P NG B0 c) : COk P ⟨NG.ng, some r1, NG.opq⟩ B0 c := fun g ar s v s' hg e r' w args hb' hs hr => h g ar s v s' hg e r' w args (hb.env hl hb') hs hr
theorem YOk.env {r r1 : Rho} {c : CallE} (hb : Base NG r) (hl : r.Le r1) (h : YOk P NG B0 c) : YOk P ⟨NG.ng, some r1, NG.opq⟩ B0 c := fun b ar s v s' e r' w vals hb' hs hh hr => h b ar s v s' e r' w vals (hb.env hl hb') hs hh hr
theorem beq_false {a b : Nat} (h : a < b) : Nat.beq a b = false := by
  cases e : Nat.beq a b with
  | false => rfl
  | true => exact absurd (Nat.eq_of_beq_eq_true e) (Nat.ne_of_lt h)
/-- What a round's end does. -/
theorem rndEnd_ok {lo b : Nat} {r2 r3 : Rho} {s2 s3 : St} {w2 w3 : World} {out : R} {v : AV} {s' : St} {rec : Loop} (hrun : rndEnd b out = .ok v s') (hl : r2.has b) (hrec : r2.lp b = rec) (hst : Stp r2 s2 w2 r3 s3 w3) {l : Nat} (hbl : r2.blk b = l) :
    Post B0 N lo r3 s3 w3 out (roundPost P l fun e w' => ∃ x, e = .returned x ∧ ∃ r', Rel r' v x ∧ Sim B0 r' s' w' ∧ Stp r2 s2 w2 r' s' w') := by
  have key : ∀ (q : Nat) (ans : Bool) (jump : Option Code) (s4 : St) (a4 : Act) (w4 : World) (r4 : Rho), Sim B0 r4 s4 w4 → Stp r3 s3 w3 r4 s4 w4 → lpGo b 1 q s4 .bad (fun s => RC.ok (.b ans) s) = .ok v s' → jump.isNone = ans →
      (∀ L : Loop, ({ lpAt L 1 with state := if jump.isNone then .ready else .done, pending := jump } : Loop) = lpAt L q) →
      ∃ v' w', (Instr.endRound l jump).run P w4 = .ok v' w' ∧ ∃ x, Ending.returned v' = .returned x ∧ ∃ r', Rel r' v x ∧ Sim B0 r' s' w' ∧ Stp r2 s2 w2 r' s' w' := by
    intro q ans jump s4 a4 w4 r4 h1 h2 hgo hans hlp
    rcases lpGo_eq (b := b) (p := 1) (q := q) (s := s4) (bad := RC.bad) (f := fun s => RC.ok (.b ans) s) with e | ⟨e1, e2⟩
    · rw [e] at hgo; cases hgo
    · rw [e2] at hgo
      cases hgo
      have hle := hst.le.trans h2.le
      have hbl4 : r4.blk b = l := ((hle.same b hl).2.1).trans hbl
      have hat := (h1.loop_at e1).2.2
      rw [hbl4] at hat
      obtain ⟨g1, g2⟩ := h1.loop_put (q := q) e1
      refine ⟨_, _, run_endRound jump hat, _, rfl, r4, ?_, ?_, ?_⟩
      · show Rel r4 (.b ans) (.bool jump.isNone)
        rw [hans]; rfl
      · rw [hlp, ← hbl4]; exact g1
      · rw [hlp, ← hbl4]; exact (hst.trans h2).trans g2
  cases out with
  | bad => cases hrun
  | nrm fr4 s4 => exact fun a4 w4 r4 h1 h2 h3 h4 => key 0 true none s4 a4 w4 r4 h1 h2 hrun rfl fun L => rfl
  | rt fr4 s4 => exact fun a4 w4 r4 h1 h2 h3 h4 => key 2 false (some .ret) s4 a4 w4 r4 h1 h2 hrun rfl fun L => rfl
  | ex id fr4 s4 => exact fun a4 w4 r4 h1 h2 h3 h4 => key (id + 3) false (some (.exit id)) s4 a4 w4 r4 h1 h2 hrun rfl fun L => rfl
/-- Rounds are as they should be. -/
theorem hY_ok {r1 : Rho} {fr : Fr} {tmps : Array Value} {ps : Array Tmp} {psD : List D} {asg bd : Code} {asC bdC : C} {c : CallE} {b l : Nat} {rec : Loop} (hc : CAll P ⟨NG.ng, some r1, NG.opq⟩ B0 c) (hps : psB ps.toList psD = true) (hfr : FrR N r1 fr { tmps := tmps, defers := [] })
    (hb1 : r1.has b) (hbl : r1.blk b = l) (hrec : r1.lp b = rec) (hr1 : rec.tmps = tmps) (hr2 : rec.params = ps) (hr3 : rec.assign = asg) (hr4 : rec.body = bd)
    (ha : CSnd P ⟨NG.ng, some r1, NG.opq⟩ B0 N (CAll P ⟨NG.ng, some r1, NG.opq⟩ B0) (some l) asg asC) (hbd : CSnd P ⟨NG.ng, some r1, NG.opq⟩ B0 N (CAll P ⟨NG.ng, some r1, NG.opq⟩ B0) (some l) bd bdC) :
    CAll P ⟨NG.ng, some r1, NG.opq⟩ B0 (hY fr psD (evC asC) (evC bdC) c b) := by
  refine ⟨fun g ar s v s' hg e r w args hbs hs hr => ?_, fun b' ar s2 v s' hrun r2 w2 vals hbs hs2 hh hr => ?_⟩
  · have e2 : hY fr psD (evC asC) (evC bdC) c b g ar s = c g ar s := by
      unfold hY
      rw [beq_false hg]
      rfl
    rw [e2] at e
    exact hc.1 g ar s v s' hg e r w args hbs hs hr
  · have e2 : hY fr psD (evC asC) (evC bdC) c b yN (.cons (.y b') ar) s2 = ifB (Nat.beq b b') (ifB (Nat.beq (lenL ar) psD.length) (lpGo b 0 0 s2 .bad fun _ => rndAs b (evC bdC c) (evC asC c (psPut psD ar fr) s2)) .bad) .bad := by
      unfold hY
      rw [show Nat.beq yN yN = true from Nat.beq_refl yN]
      rfl
    rw [e2] at hrun
    rcases q1 : Nat.beq b b' with _ | _
    · rw [q1] at hrun; cases hrun
    obtain rfl := Nat.eq_of_beq_eq_true q1
    rw [q1] at hrun
    rcases q2 : Nat.beq (lenL ar) psD.length with _ | _
    · rw [q2] at hrun; cases hrun
    rw [q2] at hrun
    replace q2 := Nat.eq_of_beq_eq_true q2
    replace hrun : lpGo b 0 0 s2 .bad (fun _ => rndAs b (evC bdC c) (evC asC c (psPut psD ar fr) s2)) = .ok v s' := hrun
    rcases lpGo_eq (b := b) (p := 0) (q := 0) (s := s2) (bad := RC.bad) (f := fun _ => rndAs b (evC bdC c) (evC asC c (psPut psD ar fr) s2)) with e | ⟨e1, e3⟩
    · rw [e] at hrun; cases hrun
    rw [e3] at hrun
    have hle : r1.Le r2 := hbs.from_ r1 rfl
    have hbl2 : r2.blk b = l := ((hle.same b hb1).2.1).trans hbl
    have hrec2 : r2.lp b = rec := (hle.loop b hb1).trans hrec
    have hat := (hs2.loop_at e1).2.2
    rw [hbl2, hrec2] at hat
    rw [hbl2]
    have hlen := relL_len hr
    rw [Array.length_toList] at hlen
    have hsz : vals.size = (lpAt rec 0).params.size := by
      show vals.size = rec.params.size
      rw [hr2, ← hlen, q2, ← psB_len hps, Array.length_toList]
    refine ⟨_, _, _, _, run_yield hat hsz, ?_⟩
    show RoundIn (Wd none) 0 P l rec.fn ((rec.params.zip vals).foldl (fun tmps x => match x with | (t, a) => tmps.setIfInBounds t a) rec.tmps) rec.assign rec.body w2 _
    rw [hr1, hr2, hr3, hr4]
    refine roundIn_of_wpIn trivial ?_
    have hfr2 : FrR N r2 (psPut psD ar fr) { tmps := (ps.zip vals).foldl (fun tmps x => match x with | (t, a) => tmps.setIfInBounds t a) tmps, defers := [] } := by
      have := ps_put hps hr (hfr.le hle)
      have e4 : (ps.zip vals).foldl (fun tmps x => match x with | (t, a) => tmps.setIfInBounds t a) tmps = (ps.toList.zip vals.toList).foldl (fun t p => t.setIfInBounds p.1 p.2) tmps := by
        rw [← Array.foldl_toList, Array.toList_zip]
      rw [e4]
      exact this
    have main : asg.wpIn (Wd (some l)) 0 P (Exit.then (fun a₁ w₁ => ∃ w₂, (Instr.beginRound l).run P w₁ = .ok () w₂ ∧ bd.wpIn (Wd (some l)) 0 P (roundPost P l fun e w' => ∃ x, e = .returned x ∧ ∃ r', Rel r' v x ∧ Sim B0 r' s' w' ∧ Stp r2 s2 w2 r' s' w') a₁ w₂) (fun _ _ _ => False))
        { tmps := (ps.zip vals).foldl (fun tmps x => match x with | (t, a) => tmps.setIfInBounds t a) tmps, defers := [] } w2 := by
      refine ha c hc (psPut psD ar fr) s2 r2 w2 _ w2.heap.size hbs hs2 hfr2 (DfOk.nil (Nat.le_refl _)) _ ?_
      generalize evC asC c (psPut psD ar fr) s2 = out at hrun
      cases out with
      | bad => cases hrun
      | ex id fr3 s3 => cases hrun
      | rt fr3 s3 => cases hrun
      | nrm fr3 s3 =>
        intro a3 w3 r3 k1 k2 k3 k4
        replace hrun : lpGo b 0 1 s3 .bad (fun s => rndEnd b (evC bdC c fr3 s)) = .ok v s' := hrun
        rcases lpGo_eq (b := b) (p := 0) (q := 1) (s := s3) (bad := RC.bad) (f := fun s => rndEnd b (evC bdC c fr3 s)) with e | ⟨e5, e6⟩
        · rw [e] at hrun; cases hrun
        rw [e6] at hrun
        have hbl3 : r3.blk b = l := ((k2.le.same b hh).2.1).trans hbl2
        have hrec3 : r3.lp b = rec := (k2.le.loop b hh).trans hrec2
        have hat3 := (k1.loop_at e5).2.2
        rw [hbl3, hrec3] at hat3
        obtain ⟨g1, g2⟩ := k1.loop_put (q := 1) e5
        rw [hbl3, hrec3] at g1 g2
        refine ⟨_, run_beginRound hat3 rfl, ?_⟩
        exact hbd c hc fr3 _ r3 _ a3 w2.heap.size (hbs.le k2.le) g1 k3 (k4.stp g2) _ (rndEnd_ok hrun hh hrec2 (k2.trans g2) hbl2)
    exact main
end
end Go.Proofs.YtenpbpgoglepfaaGreatDoor
namespace Go.Proofs.YtenpbpgoglepfaaGreatDoor
open Go.RowKit
set_option linter.unusedVariables false

section
variable {P : Program} {NG : Env} {B0 N : Nat}
/-- What is behind a loop: its record is given up; the jump is taken. -/
theorem rfnOut_ok {lo b l : Nat} {r0 r' : Rho} {s0 s' : St} {w0 w' : World} {a : Act} {fr : Fr} {Q : Exit → Act → World → Prop} (hs : Sim B0 r' s' w') (hst : Stp r0 s0 w0 r' s' w') (hfr : FrR N r' fr a) (hdf : DfOk lo r' s' w' a.defers) (hbl : r'.blk b = l)
    (hp : Post B0 N lo r0 s0 w0 (rfnOut fr b s') Q) : ∃ jump w₄, (Instr.endLoop l).run P w' = .ok jump w₄ ∧ (match jump with | none => Q .normal a w₄ | some c => c.wpIn (Wd none) 0 P Q a w₄) := by
  have e : rfnOut fr b s' = GB.onL (Hp.get s'.h b) .bad fun p => Nat.rec (motive := fun _ => R) (.nrm fr (.mk (Hp.put s'.h b .no) s'.n)) (fun p _ => Nat.rec (motive := fun _ => R) .bad (fun p _ => Nat.rec (motive := fun _ => R) (.rt fr (.mk (Hp.put s'.h b .no) s'.n)) (fun p _ => .ex p fr (.mk (Hp.put s'.h b .no) s'.n)) p) p) p := rfl
  rw [e] at hp
  cases hg : Hp.get s'.h b with
  | lp p =>
    rw [hg] at hp
    have hat := (hs.loop_at hg).2.2
    rw [hbl] at hat
    have fin : ∀ (q : Nat) (jump : Option Code), Hp.get s'.h b = .lp q → (lpAt (r'.lp b) q).state ≠ .busy → (lpAt (r'.lp b) q).pending = jump → ∃ w₄, (Instr.endLoop l).run P w' = .ok jump w₄ ∧ Sim B0 r' (.mk (Hp.put s'.h b .no) s'.n) w₄ ∧ Stp r0 s0 w0 r' (.mk (Hp.put s'.h b .no) s'.n) w₄ ∧ DfOk lo r' (.mk (Hp.put s'.h b .no) s'.n) w₄ a.defers := fun q jump hq h1 h2 => by
      have hat := (hs.loop_at hq).2.2
      rw [hbl] at hat
      obtain ⟨g1, g2⟩ := hs.loop_end hq (.loop { lpAt (r'.lp b) q with state := .exhausted })
      rw [hbl] at g1 g2
      subst h2
      exact ⟨_, run_endLoop (P := P) hat h1, g1, hst.trans g2, hdf.stp g2⟩
    match p, hg, hp with
    | 0, hg, hp =>
      obtain ⟨w₄, k0, k1, k2, k3⟩ := fin 0 none hg (by simp [lpAt]) rfl
      exact ⟨none, w₄, k0, hp a w₄ r' k1 k2 hfr k3⟩
    | 1, hg, hp => exact hp.elim
    | 2, hg, hp =>
      obtain ⟨w₄, k0, k1, k2, k3⟩ := fin 2 (some .ret) hg (by simp [lpAt]) rfl
      exact ⟨some .ret, w₄, k0, wpIn_ret (hp a w₄ r' k1 k2 hfr k3)⟩
    | n + 3, hg, hp =>
      obtain ⟨w₄, k0, k1, k2, k3⟩ := fin (n + 3) (some (.exit n)) hg (by simp [lpAt]) rfl
      exact ⟨some (.exit n), w₄, k0, wpIn_exit (hp a w₄ r' k1 k2 hfr k3)⟩
  | _ => rw [hg] at hp; exact hp.elim
theorem csnd_rfn {gop : Operand} {ps : Array Tmp} {asg bd : Code} {x : X} {psD : List D} {asC bdC itC : C} {g nt : Nat} {fng : Func} {itcode : Code} (hg : xB NG N gop x = true) (hf : P.funcs[g]? = some fng) (hbody : fng.body = some itcode) (hname : fng.name ≠ "runtime.NumGoroutine") (hres : fng.results = #[])
    (h16 : nt ≤ 16) (hnt : nt ≤ fng.ntmps) (hps : psB ps.toList psD = true)
    (ha : ∀ r1 l, CSnd P ⟨NG.ng, some r1, NG.opq⟩ B0 N (CAll P ⟨NG.ng, some r1, NG.opq⟩ B0) (some l) asg asC) (hbd : ∀ r1 l, CSnd P ⟨NG.ng, some r1, NG.opq⟩ B0 N (CAll P ⟨NG.ng, some r1, NG.opq⟩ B0) (some l) bd bdC)
    (hit : ∀ r1, CSnd P ⟨NG.ng, some r1, NG.opq⟩ B0 fng.ntmps (CAll P ⟨NG.ng, some r1, NG.opq⟩ B0) none itcode itC) : CSnd P NG B0 N (CAll P NG B0) none (.rangeFunc gop ps asg bd) (.rfn x psD asC bdC g nt itC) := fun c hc fr s r w a lo hb hs hfr hdf Q hp => by
  have e : evC (.rfn x psD asC bdC g nt itC) c fr s = AV.onF (X.ev x fr) .bad fun g' fs cs => ifB (Nat.beq g' g) (strictN s.n fun b => ifB (Nat.blt b 65536) (ifB (Nat.ble (lenL (AV.app fs (.cons (.y b) cs))) nt)
    (rfnEnd fr b (evC itC (hY fr psD (evC asC) (evC bdC) c b) (inFr (AV.app fs (.cons (.y b) cs))) (.mk (Hp.put s.h b (.lp 0)) (Nat.succ b)))) .bad) .bad) .bad := rfl
  rw [e] at hp
  have hr := xB_rel hg hb hfr
  cases hx : X.ev x fr <;> rw [hx] at hp hr <;> try exact hp.elim
  rename_i g' fs cs
  replace hp : Post B0 N lo r s w (ifB (Nat.beq g' g) (strictN s.n fun b => ifB (Nat.blt b 65536) (ifB (Nat.ble (lenL (AV.app fs (.cons (.y b) cs))) nt)
    (rfnEnd fr b (evC itC (hY fr psD (evC asC) (evC bdC) c b) (inFr (AV.app fs (.cons (.y b) cs))) (.mk (Hp.put s.h b (.lp 0)) (Nat.succ b)))) .bad) .bad) .bad) Q := hp
  rcases q1 : Nat.beq g' g with _ | _
  · rw [q1] at hp; exact hp.elim
  obtain rfl := Nat.eq_of_beq_eq_true q1
  rw [q1, ifB_true, strictN_eq] at hp
  rcases q2 : Nat.blt s.n 65536 with _ | _
  · rw [q2] at hp; exact hp.elim
  rw [q2, ifB_true] at hp
  rcases q3 : Nat.ble (lenL (AV.app fs (.cons (.y s.n) cs))) nt with _ | _
  · rw [q3] at hp; exact hp.elim
  rw [q3, ifB_true] at hp
  replace q3 := Nat.le_of_ble_eq_true q3
  obtain ⟨first, cap, hv, hr1, hr2⟩ := hr
  refine wpIn_rangeFunc fun fn _ => ?_
  -- the loop's record
  obtain ⟨rec, hrec⟩ : ∃ rec : Loop, rec = { state := .ready, pending := none, fn := fn, tmps := a.tmps, params := ps, assign := asg, body := bd, defers := w.heap.size } := ⟨_, rfl⟩
  have hrec0 : lpAt rec 0 = rec := by rw [hrec]; rfl
  have hmore : Below w.heap.size w (w.alloc (.deferred (some []))) := (Below.refl _ w).alloc (Nat.le_refl _) _
  obtain ⟨m1, m2⟩ := hs.more hmore
  obtain ⟨n1, n2⟩ := m1.newL rec
  have hsz : (w.alloc (.deferred (some []))).heap.size = w.heap.size + 1 := by simp
  rw [hsz, hrec0] at n1 n2
  obtain ⟨r1, hr1e⟩ : ∃ r1, r1 = r.pushL (w.heap.size + 1) rec := ⟨_, rfl⟩
  obtain ⟨W1, hW1⟩ : ∃ W1, W1 = (w.alloc (.deferred (some []))).alloc (.loop rec) := ⟨_, rfl⟩
  rw [← hr1e, ← hW1] at n1 n2
  have n3 := m2.trans n2
  have hn : s.n = r.n := hs.n
  have hhas : r1.has s.n := by rw [hr1e, hn]; exact .inr rfl
  have hblk : r1.blk s.n = w.heap.size + 1 := by rw [hr1e, hn]; simp [Rho.pushL]
  have hlp : r1.lp s.n = rec := by rw [hr1e, hn]; simp [Rho.pushL]
  have hbE : Base ⟨NG.ng, some r1, NG.opq⟩ r1 := by
    have h0 := hb.le n3.le
    exact ⟨h0.glob, fun r0 e => by cases e; exact .refl _, h0.few, h0.inj, h0.opq⟩
  have hcE : CAll P ⟨NG.ng, some r1, NG.opq⟩ B0 c := ⟨hc.1.env hb n3.le, hc.2.env hb n3.le⟩
  have hcY := hY_ok (asC := asC) (bdC := bdC) (fr := fr) (tmps := a.tmps) hcE hps ⟨hfr.size, fun p q v e => (hfr.get p q v e).le n3.le⟩ hhas hblk hlp (by rw [hrec]) (by rw [hrec]) (by rw [hrec]) (by rw [hrec]) (ha r1 _) (hbd r1 _)
  have hargs : RelL r1 (AV.app fs (.cons (.y s.n) cs)) ((first ++ #[Value.func (.yield (w.heap.size + 1)) #[] #[]]) ++ cap).toList := by
    rw [Array.toList_append, Array.toList_append, List.append_assoc]
    exact app_rel (hr1.le n3.le) ⟨_, _, rfl, ⟨hhas, by rw [hblk]⟩, hr2.le n3.le⟩
  have hdf1 : DfOk lo r1 (.mk (Hp.put s.h s.n (.lp 0)) (Nat.succ s.n)) W1 ({ target := .collected w.heap.size, args := #[] } :: a.defers) := by
    have h0 := hdf.stp n3
    refine ⟨h0.hlo, fun d hd => ?_, List.nodup_cons.2 ⟨fun hd => ?_, hdf.ne⟩⟩
    · rcases List.mem_cons.1 hd with rfl | hd
      · refine ⟨w.heap.size, rfl, hdf.hlo, ?_, fun b' hb' e => ?_⟩
        · rw [hW1]
          exact (Below.heap_alloc _ _ _ (by simp)).trans (World.alloc_heap_new w _)
        · rw [St.h_mk] at hb'
          rcases live_put hb' with ⟨e1, e2⟩ | ⟨e1, e2⟩
          · rw [e1, hblk] at e; omega
          · rw [e2] at hb'
            obtain ⟨z1, z2⟩ := (hs.ok b').lt (live_ne hb')
            rw [(n3.le.same b' z1).2.1] at e
            omega
      · exact h0.all d hd
    · obtain ⟨D, h1, _, h2, _⟩ := hdf.all _ hd
      injection h1 with h1 _
      injection h1 with h1
      have := (Array.getElem?_eq_some_iff.1 h2).1
      omega
  refine ⟨w.heap.size + 1, [{ target := .collected w.heap.size, args := #[] }], W1, { target := .fn (.func g') cap, args := first ++ #[.func (.yield (w.heap.size + 1)) #[] #[]] }, W1, g', (first ++ #[.func (.yield (w.heap.size + 1)) #[] #[]]) ++ cap, W1, ?_, ?_, fun _ _ => trivial, ?_, fun h => (by cases h), ?_⟩
  · rw [hW1, hrec]; exact run_enterLoop_outer fn a.tmps ps asg bd
  · simp only [resolve, hv]
    simp [Deferred.ofValue, Act.eval]
  · show (callFunc g' ((first ++ #[.func (.yield (w.heap.size + 1)) #[] #[]]) ++ cap)).run P W1 = _
    unfold callFunc
    simp [hf, hname, hbody]
  · refine callsIn_of_wp_marks (F := Wd none) hf hbody trivial ?_ rfl
    refine hit r1 _ hcY _ _ r1 W1 _ W1.heap.size hbE n1 (frame_in hargs q3 h16 hnt) (DfOk.nil (Nat.le_refl _)) _ ?_
    have fin : ∀ (fr2 : Fr) (s2 : St), Post B0 N lo r s w (rfnOut fr s.n s2) Q → ∀ (a' : Act) (w' : World) (r' : Rho), Sim B0 r' s2 w' → Stp r1 (.mk (Hp.put s.h s.n (.lp 0)) (Nat.succ s.n)) W1 r' s2 w' → FrR fng.ntmps r' fr2 a' → DfOk W1.heap.size r' s2 w' a'.defers →
        LeavesInM (Wd none) 0 P fng a'.tmps (rangePost (Wd none) 0 P (w.heap.size + 1) Q { a with defers := [{ target := .collected w.heap.size, args := #[] }] ++ a.defers }) a'.defers .returning w' := fun fr2 s2 hp a' w' r' h1 h2 h3 h4 => by
      refine leaves_df h4 h1 h2 fun w'' g1 g2 => ?_
      refine ⟨.tuple #[], ?_, ?_⟩
      · exact results_ok (us := []) (by rw [hres]; rfl)
      · show ∃ jump w₄, (Instr.endLoop (w.heap.size + 1)).run P w'' = .ok jump w₄ ∧ _
        have hbl' : r'.blk s.n = w.heap.size + 1 := ((g2.le.same _ hhas).2.1).trans hblk
        exact rfnOut_ok (a := { a with defers := [{ target := .collected w.heap.size, args := #[] }] ++ a.defers }) g1 (n3.trans g2) ⟨hfr.size, fun p q v e => (hfr.get p q v e).le (n3.trans g2).le⟩ (hdf1.stp g2) hbl' hp
    generalize evC itC (hY fr psD (evC asC) (evC bdC) c s.n) (inFr (AV.app fs (.cons (.y s.n) cs))) (.mk (Hp.put s.h s.n (.lp 0)) (Nat.succ s.n)) = out at hp
    cases out with
    | bad => exact hp.elim
    | nrm fr2 s2 => exact fun a' w' r' h1 h2 h3 h4 => fin fr2 s2 hp a' w' r' h1 h2 h3 h4
    | ex id fr2 s2 => exact hp.elim
    | rt fr2 s2 => exact fun a' w' r' h1 h2 h3 h4 => fin fr2 s2 hp a' w' r' h1 h2 h3 h4
end
end Go.Proofs.YtenpbpgoglepfaaGreatDoor
namespace Go.Proofs.YtenpbpgoglepfaaGreatDoor
open Go.RowKit
set_option linter.unusedVariables false

/-- Where its value goes. -/
def dstI : I → D
  | .mov _ d => d | .pick _ _ _ d => d | .alc _ _ d => d | .box _ _ d => d | .bld _ _ _ d => d | .bls _ _ _ _ d => d
  | .ld1 _ d => d | .ldn _ _ d => d | .sto _ _ _ => .no | .nlc _ d => d | .ar _ _ _ d => d | .cmp _ _ _ d => d | .eqv _ _ _ _ d => d
  | .not _ d => d | .cnv _ _ d => d | .s2b _ d => d | .b2s _ d => d | .cat _ _ d => d | .fld _ _ d => d | .idx _ _ _ d => d | .ixa _ _ _ _ d => d
  | .fi1 _ _ d => d | .fin _ _ _ d => d | .ina _ _ _ d => d | .ins _ _ d => d | .slc _ _ _ _ _ d => d | .sls _ _ _ d => d
  | .mkf _ _ _ d => d | .mki _ _ d => d | .mkm d => d | .mks _ _ _ _ d => d | .lok _ _ _ _ d => d | .mup _ _ _ => .no | .del _ _ d => d
  | .len _ _ d => d | .cap _ d => d | .app _ _ _ d => d | .aps _ _ d => d | .apz _ _ _ _ d => d | .cpy _ _ _ d => d | .clr _ _ _ d => d
  | .mnx _ _ _ d => d | .ext _ _ d => d | .call _ _ d => d | .cald _ _ d => d | .inv _ _ _ d => d | .yld _ _ d => d | .gd _ _ _ _ d => d
/-- A guard's value goes where its instruction's would. -/
def gdI : I → Prop
  | .gd _ _ _ i d => dstI i = d ∧ gdI i
  | _ => True
/-- Does it look at no state? -/
def pureI : I → Bool
  | .mov _ _ => true | .pick _ _ _ _ => true | .bld _ _ _ _ => true | .nlc _ _ => true | .ar _ _ _ _ => true | .cmp _ _ _ _ => true
  | .not _ _ => true | .cnv _ _ _ => true | .cat _ _ _ => true | .fld _ _ _ => true | .idx _ _ _ _ => true | .ixa _ _ _ _ _ => true
  | .fi1 _ _ _ => true | .fin _ _ _ _ => true | .ina _ _ _ _ => true | .ins _ _ _ => true | .slc _ _ _ _ _ _ => true | .sls _ _ _ _ => true
  | .mkf _ _ _ _ => true | .mki _ _ _ => true | .cap _ _ => true | .mnx _ _ _ _ => true | .ext _ _ _ => true
  | .gd _ _ _ i _ => pureI i | _ => false
/-- Does it keep the state? -/
def readI : I → Bool
  | .ld1 _ _ => true | .ldn _ _ _ => true | .eqv _ _ _ _ _ => true | .b2s _ _ => true | .lok _ _ _ _ _ => true | .len _ _ _ => true
  | .gd _ _ _ i _ => readI i | i => pureI i

section
variable {fr fr' : Fr} {c : CallE} {s s' : St} {k k' : K}
theorem evXs_loc : ∀ {l : List X}, (∀ x ∈ l, X.ev x fr = X.ev x fr') → evXs l fr = evXs l fr'
  | [], _ => rfl
  | x :: l, h => by
    show AV.cons (X.ev x fr) (evXs l fr) = AV.cons (X.ev x fr') (evXs l fr')
    rw [h x List.mem_cons_self, evXs_loc fun y hy => h y (List.mem_cons_of_mem _ hy)]
theorem layP_loc : ∀ {ps : List (Nat × Nat × X)}, (∀ x ∈ ps.map (fun p => p.2.2), X.ev x fr = X.ev x fr') → ∀ (cs : Cs) {f f' : Cs → R}, (∀ cs, f cs = f' cs) → layP ps fr cs f = layP ps fr' cs f'
  | [], _, cs, f, f', hf => hf cs
  | (o, n, x) :: ps, h, cs, f, f', hf => by
    show ifB (allOne (AV.flat (X.ev x fr))) (ifB (Nat.beq (lenL (AV.flat (X.ev x fr))) n) (layP ps fr (Cs.putL (AV.flat (X.ev x fr)) o cs) f) .bad) .bad = ifB (allOne (AV.flat (X.ev x fr'))) (ifB (Nat.beq (lenL (AV.flat (X.ev x fr'))) n) (layP ps fr' (Cs.putL (AV.flat (X.ev x fr')) o cs) f') .bad) .bad
    rw [h x (by simp), layP_loc (fun y hy => h y (by simp only [List.map_cons, List.mem_cons]; exact .inr hy)) _ hf]
theorem optN_loc {x : Option X} (h : ∀ y ∈ rdsO x, X.ev y fr = X.ev y fr') (e : Nat) (f : Nat → R) : optN x e fr f = optN x e fr' f := by
  cases x with
  | none => rfl
  | some x => show AV.onI (X.ev x fr) _ _ = AV.onI (X.ev x fr') _ _; rw [h x (by simp [rdsO])]
theorem evI_gd (h l : H) (b : Bool) (i : I) (d : D) : evI (.gd h l b i d) c fr s k = AV.onB (F.get l (F.get h fr)) .bad fun t => ifB (eqB t b) (evI i c fr s k) (k (D.put d .u fr) s) := rfl
/-- Operands that are alike: the same behind it, if the rest does the same with each value and state. -/
theorem loc (i : I) (hg : gdI i) (h : ∀ x ∈ rdsI i, X.ev x fr = X.ev x fr') (hk : ∀ v t, k (D.put (dstI i) v fr) t = k' (D.put (dstI i) v fr') t) : evI i c fr s k = evI i c fr' s k' := by
  induction i generalizing k k' with
  | bld n z ps d => exact layP_loc h _ fun cs => hk _ _
  | bls z n zs ps d =>
    refine layP_loc h _ fun cs => ?_
    have hk : ∀ v t, k (D.put d v fr) t = k' (D.put d v fr') t := hk
    simp only [withSt_eq, strictN_eq, hk]
  | slc z x lo hi mx d =>
    simp only [rdsI, List.mem_cons, List.mem_append] at h
    have h1 := h x (.inl rfl)
    have h2 : ∀ y ∈ rdsO lo, X.ev y fr = X.ev y fr' := fun y hy => h y (.inr (.inl hy))
    have h3 : ∀ y ∈ rdsO hi, X.ev y fr = X.ev y fr' := fun y hy => h y (.inr (.inr (.inl hy)))
    have h4 : ∀ y ∈ rdsO mx, X.ev y fr = X.ev y fr' := fun y hy => h y (.inr (.inr (.inr hy)))
    have hk : ∀ v t, k (D.put d v fr) t = k' (D.put d v fr') t := hk
    show hSlc z x lo hi mx d c fr s k = hSlc z x lo hi mx d c fr' s k'
    simp only [hSlc, h1, hk, optN_loc h2, optN_loc h3, optN_loc h4]
  | sls x lo hi d =>
    simp only [rdsI, List.mem_cons, List.mem_append] at h
    have h1 := h x (.inl rfl)
    have h2 : ∀ y ∈ rdsO lo, X.ev y fr = X.ev y fr' := fun y hy => h y (.inr (.inl hy))
    have h3 : ∀ y ∈ rdsO hi, X.ev y fr = X.ev y fr' := fun y hy => h y (.inr (.inr hy))
    have hk : ∀ v t, k (D.put d v fr) t = k' (D.put d v fr') t := hk
    show hSls x lo hi d c fr s k = hSls x lo hi d c fr' s k'
    simp only [hSls, h1, hk, optN_loc h2, optN_loc h3]
  | mkf g fs cs d =>
    simp only [rdsI, List.mem_append] at h
    have hk : ∀ v t, k (D.put d v fr) t = k' (D.put d v fr') t := hk
    show hMkf g fs cs d c fr s k = hMkf g fs cs d c fr' s k'
    simp only [hMkf, hk, evXs_loc fun x hx => h x (.inl hx), evXs_loc fun x hx => h x (.inr hx)]
  | call g l d =>
    have h : ∀ x ∈ l, X.ev x fr = X.ev x fr' := h
    have hk : ∀ v t, k (D.put d v fr) t = k' (D.put d v fr') t := hk
    show hCall g l d c fr s k = hCall g l d c fr' s k'
    simp only [hCall, hk, evXs_loc h]
  | cald x l d =>
    simp only [rdsI, List.mem_cons] at h
    have hk : ∀ v t, k (D.put d v fr) t = k' (D.put d v fr') t := hk
    show hCald x l d c fr s k = hCald x l d c fr' s k'
    simp only [hCald, hk, h x (.inl rfl), evXs_loc fun x hx => h x (.inr hx)]
  | inv tb x l d =>
    simp only [rdsI, List.mem_cons] at h
    have hk : ∀ v t, k (D.put d v fr) t = k' (D.put d v fr') t := hk
    show hInv tb x l d c fr s k = hInv tb x l d c fr' s k'
    simp only [hInv, hk, h x (.inl rfl), evXs_loc fun x hx => h x (.inr hx)]
  | yld x l d =>
    simp only [rdsI, List.mem_cons] at h
    have hk : ∀ v t, k (D.put d v fr) t = k' (D.put d v fr') t := hk
    show hYld x l d c fr s k = hYld x l d c fr' s k'
    simp only [hYld, hk, h x (.inl rfl), evXs_loc fun x hx => h x (.inr hx)]
  | gd p q b i d ih =>
    simp only [rdsI, List.mem_cons] at h
    have h1 : F.get q (F.get p fr) = F.get q (F.get p fr') := h (.t p q) (.inl rfl)
    have hd : dstI i = d := hg.1
    have hk : ∀ v t, k (D.put d v fr) t = k' (D.put d v fr') t := hk
    rw [evI_gd, evI_gd, h1, ih hg.2 (fun x hx => h x (.inr hx)) (by rw [hd]; exact hk), hk]
  | _ =>
    first
    | simp only [rdsI, List.mem_cons, List.not_mem_nil, or_false, forall_eq_or_imp, forall_eq, false_implies, implies_true] at h
    | skip
    simp only [dstI] at hk
    first
    | (show hMov _ _ c fr s k = hMov _ _ c fr' s k'; simp only [hMov, h, hk])
    | (show hPick _ _ _ _ c fr s k = hPick _ _ _ _ c fr' s k'; simp only [hPick, h, hk])
    | (show hAlc _ _ _ c fr s k = hAlc _ _ _ c fr' s k'; simp only [hAlc, hk])
    | (show hBox _ _ _ c fr s k = hBox _ _ _ c fr' s k'; simp only [hBox, h, hk])
    | (show hLd1 _ _ c fr s k = hLd1 _ _ c fr' s k'; simp only [hLd1, h, hk])
    | (show hLdn _ _ _ c fr s k = hLdn _ _ _ c fr' s k'; simp only [hLdn, h, hk])
    | (have hk2 : ∀ t, k fr t = k' fr' t := fun t => hk .u t
       show hSto _ _ _ c fr s k = hSto _ _ _ c fr' s k'; simp only [hSto, h, hk2])
    | (show hNlc _ _ c fr s k = hNlc _ _ c fr' s k'; simp only [hNlc, h, hk])
    | (show hAr _ _ _ _ c fr s k = hAr _ _ _ _ c fr' s k'; simp only [hAr, h, hk])
    | (show hCmp _ _ _ _ c fr s k = hCmp _ _ _ _ c fr' s k'; simp only [hCmp, putB, h, hk])
    | (show hEqv _ _ _ _ _ c fr s k = hEqv _ _ _ _ _ c fr' s k'; simp only [hEqv, putB, h, hk])
    | (show hNot _ _ c fr s k = hNot _ _ c fr' s k'; simp only [hNot, putB, h, hk])
    | (show hCnv _ _ _ c fr s k = hCnv _ _ _ c fr' s k'; simp only [hCnv, h, hk])
    | (show hS2b _ _ c fr s k = hS2b _ _ c fr' s k'; simp only [hS2b, h, hk])
    | (show hB2s _ _ c fr s k = hB2s _ _ c fr' s k'; simp only [hB2s, h, hk])
    | (show hCat _ _ _ c fr s k = hCat _ _ _ c fr' s k'; simp only [hCat, h, hk])
    | (show hFld _ _ _ c fr s k = hFld _ _ _ c fr' s k'; simp only [hFld, h, hk])
    | (show hIdx _ _ _ _ c fr s k = hIdx _ _ _ _ c fr' s k'; simp only [hIdx, h, hk])
    | (show hIxa _ _ _ _ _ c fr s k = hIxa _ _ _ _ _ c fr' s k'; simp only [hIxa, h, hk])
    | (show hFi1 _ _ _ c fr s k = hFi1 _ _ _ c fr' s k'; simp only [hFi1, h, hk])
    | (show hFin _ _ _ _ c fr s k = hFin _ _ _ _ c fr' s k'; simp only [hFin, h, hk])
    | (show hIna _ _ _ _ c fr s k = hIna _ _ _ _ c fr' s k'; simp only [hIna, h, hk])
    | (show hIns _ _ _ c fr s k = hIns _ _ _ c fr' s k'; simp only [hIns, h, hk])
    | (show hMki _ _ _ c fr s k = hMki _ _ _ c fr' s k'; simp only [hMki, h, hk])
    | (show hMkm _ c fr s k = hMkm _ c fr' s k'; simp only [hMkm, hk])
    | (show hMks _ _ _ _ _ c fr s k = hMks _ _ _ _ _ c fr' s k'; simp only [hMks, h, hk])
    | (show hLok _ _ _ _ _ c fr s k = hLok _ _ _ _ _ c fr' s k'; simp only [hLok, h, hk])
    | (have hk2 : ∀ t, k fr t = k' fr' t := fun t => hk .u t
       show hMup _ _ _ c fr s k = hMup _ _ _ c fr' s k'; simp only [hMup, h, hk2])
    | (show hDel _ _ _ c fr s k = hDel _ _ _ c fr' s k'; simp only [hDel, h, hk])
    | (show hLen _ _ _ c fr s k = hLen _ _ _ c fr' s k'; simp only [hLen, h, hk])
    | (show hCap _ _ c fr s k = hCap _ _ c fr' s k'; simp only [hCap, h, hk])
    | (show hApp _ _ _ _ c fr s k = hApp _ _ _ _ c fr' s k'; simp only [hApp, appE, h, hk])
    | (show hAps _ _ _ c fr s k = hAps _ _ _ c fr' s k'; simp only [hAps, appE, h, hk])
    | (show hApz _ _ _ _ _ c fr s k = hApz _ _ _ _ _ c fr' s k'; simp only [hApz, appE, h, hk])
    | (show hCpy _ _ _ _ c fr s k = hCpy _ _ _ _ c fr' s k'; simp only [hCpy, h, hk])
    | (show hClr _ _ _ _ c fr s k = hClr _ _ _ _ c fr' s k'; simp only [hClr, h, hk])
    | (show hMnx _ _ _ _ c fr s k = hMnx _ _ _ _ c fr' s k'; simp only [hMnx, h, hk])
    | (show hExt _ _ _ c fr s k = hExt _ _ _ c fr' s k'; simp only [hExt, h, hk])
/-- What looks at no state does the same in another one. -/
theorem locS (i : I) (hp : pureI i = true) (hg : gdI i) (hk : ∀ v, k (D.put (dstI i) v fr) s = k' (D.put (dstI i) v fr) s') : evI i c fr s k = evI i c fr s' k' := by
  induction i generalizing k k' with
  | bld n z ps d => exact layP_loc (fun _ _ => rfl) _ fun cs => hk _
  | gd p q b i d ih =>
    have hd : dstI i = d := hg.1
    have hk : ∀ v, k (D.put d v fr) s = k' (D.put d v fr) s' := hk
    rw [evI_gd, evI_gd, ih hp hg.2 (by rw [hd]; exact hk), hk]
  | _ =>
    simp only [pureI, Bool.false_eq_true] at hp
    all_goals
    simp only [dstI] at hk
    first
    | (show hMov _ _ c fr s k = hMov _ _ c fr s' k'; simp only [hMov, hk])
    | (show hPick _ _ _ _ c fr s k = hPick _ _ _ _ c fr s' k'; simp only [hPick, hk])
    | (show hNlc _ _ c fr s k = hNlc _ _ c fr s' k'; simp only [hNlc, hk])
    | (show hAr _ _ _ _ c fr s k = hAr _ _ _ _ c fr s' k'; simp only [hAr, hk])
    | (show hCmp _ _ _ _ c fr s k = hCmp _ _ _ _ c fr s' k'; simp only [hCmp, putB, hk])
    | (show hNot _ _ c fr s k = hNot _ _ c fr s' k'; simp only [hNot, putB, hk])
    | (show hCnv _ _ _ c fr s k = hCnv _ _ _ c fr s' k'; simp only [hCnv, hk])
    | (show hCat _ _ _ c fr s k = hCat _ _ _ c fr s' k'; simp only [hCat, hk])
    | (show hFld _ _ _ c fr s k = hFld _ _ _ c fr s' k'; simp only [hFld, hk])
    | (show hIdx _ _ _ _ c fr s k = hIdx _ _ _ _ c fr s' k'; simp only [hIdx, hk])
    | (show hIxa _ _ _ _ _ c fr s k = hIxa _ _ _ _ _ c fr s' k'; simp only [hIxa, hk])
    | (show hFi1 _ _ _ c fr s k = hFi1 _ _ _ c fr s' k'; simp only [hFi1, hk])
    | (show hFin _ _ _ _ c fr s k = hFin _ _ _ _ c fr s' k'; simp only [hFin, hk])
    | (show hIna _ _ _ _ c fr s k = hIna _ _ _ _ c fr s' k'; simp only [hIna, hk])
    | (show hIns _ _ _ c fr s k = hIns _ _ _ c fr s' k'; simp only [hIns, hk])
    | (show hSlc _ _ _ _ _ _ c fr s k = hSlc _ _ _ _ _ _ c fr s' k'; simp only [hSlc, hk])
    | (show hSls _ _ _ _ c fr s k = hSls _ _ _ _ c fr s' k'; simp only [hSls, hk])
    | (show hMkf _ _ _ _ c fr s k = hMkf _ _ _ _ c fr s' k'; simp only [hMkf, hk])
    | (show hMki _ _ _ c fr s k = hMki _ _ _ c fr s' k'; simp only [hMki, hk])
    | (show hCap _ _ c fr s k = hCap _ _ c fr s' k'; simp only [hCap, hk])
    | (show hMnx _ _ _ _ c fr s k = hMnx _ _ _ _ c fr s' k'; simp only [hMnx, hk])
    | (show hExt _ _ _ c fr s k = hExt _ _ _ c fr s' k'; simp only [hExt, hk])
/-- What keeps the state goes on with it. -/
theorem locK (i : I) (hp : readI i = true) (hg : gdI i) (hk : ∀ v, k (D.put (dstI i) v fr) s = k' (D.put (dstI i) v fr) s) : evI i c fr s k = evI i c fr s k' := by
  induction i generalizing k k' with
  | gd p q b i d ih =>
    have hd : dstI i = d := hg.1
    have hk : ∀ v, k (D.put d v fr) s = k' (D.put d v fr) s := hk
    rw [evI_gd, evI_gd, ih hp hg.2 (by rw [hd]; exact hk), hk]
  | ld1 a d => simp only [dstI] at hk; show hLd1 _ _ c fr s k = hLd1 _ _ c fr s k'; simp only [hLd1, hk]
  | ldn n a d => simp only [dstI] at hk; show hLdn _ _ _ c fr s k = hLdn _ _ _ c fr s k'; simp only [hLdn, hk]
  | eqv t g x y d => simp only [dstI] at hk; show hEqv _ _ _ _ _ c fr s k = hEqv _ _ _ _ _ c fr s k'; simp only [hEqv, putB, hk]
  | b2s x d => simp only [dstI] at hk; show hB2s _ _ c fr s k = hB2s _ _ c fr s k'; simp only [hB2s, hk]
  | lok zv x q ok d => simp only [dstI] at hk; show hLok _ _ _ _ _ c fr s k = hLok _ _ _ _ _ c fr s k'; simp only [hLok, hk]
  | len g x d => simp only [dstI] at hk; show hLen _ _ _ c fr s k = hLen _ _ _ c fr s k'; simp only [hLen, hk]
  | _ => exact locS _ hp hg hk
end
end Go.Proofs.YtenpbpgoglepfaaGreatDoor
namespace Go.Proofs.YtenpbpgoglepfaaGreatDoor
open Go.RowKit
set_option linter.unusedVariables false

def DI.kd : DI → Kd | .mk k _ _ _ => k
def DI.ms : DI → Nat | .mk _ m _ _ => m
def DI.ds : DI → D | .mk _ _ d _ => d
def DI.is : DI → I | .mk _ _ _ i => i
def RdE.is : RdE → I | .mk _ _ i _ _ => i
/-- An instruction either fails or goes on with one frame and state. -/
def CtI (c : CallE) (i : I) : Prop := ∀ fr s, (∀ k, evI i c fr s k = .bad) ∨ ∃ fr' s', ∀ k, evI i c fr s k = k fr' s'
/-- It gives this value, there too. -/
def Ag (c : CallE) (d : D) (i : I) (fr : Fr) (v : AV) (s : St) : Prop := ∃ fr' s', (∀ k, evI i c fr s k = k fr' s') ∧ D.get d fr' = v
theorem ifB_eq {β : Type} {b : Bool} (x y : β) : ifB b x y = if b = true then x else y := by cases b <;> rfl
theorem kN_inj {a b : IntKind} (h : Nat.beq (kN a) (kN b) = true) : a = b := by cases a <;> cases b <;> first | rfl | cases h
theorem sameA_eq {a b : AV} (h : sameA a b = true) : a = b := by
  fun_induction sameA a b <;> (try simp only [Bool.and_eq_true, beq_iff_eq, eqI_eq, decide_eq_true_eq, Bool.false_eq_true] at h) <;> first | rfl | skip
  · obtain ⟨h1, rfl⟩ := h; rw [kN_inj h1]
  all_goals first | (subst h; rfl) | (obtain ⟨rfl, rfl⟩ := h; rfl) | (obtain ⟨rfl, rfl, rfl, rfl, rfl, rfl⟩ := h; rfl) | skip
  · rename_i i1 i2; obtain ⟨rfl, h2, h3⟩ := h; rw [i1 h2, i2 h3]
  · rename_i i1; obtain ⟨rfl, h2⟩ := h; rw [i1 h2]
  · rename_i i1 i2; obtain ⟨h2, h3⟩ := h; rw [i1 h2, i2 h3]
  · rename_i i1; rw [i1 h]
  · rename_i i1; rw [i1 h]
  · obtain ⟨h1, rfl⟩ := h; rw [kN_inj h1]
section
variable {c : CallE}
theorem again_ok {d : D} {i : I} {fr : Fr} {v : AV} {s : St} (h : CtI c i) : (∀ k, again d i c fr v s k = .bad) ∨ (Ag c d i fr v s ∧ ∀ k, again d i c fr v s k = k) := by
  rcases h fr s with h | ⟨fr', s', h⟩
  · left; intro k; unfold again; rw [h]
  · rcases hb : sameA (D.get d fr') v with _ | _
    · left; intro k; unfold again; rw [h, hb]; rfl
    · right; exact ⟨⟨fr', s', h, sameA_eq hb⟩, fun k => by unfold again; rw [h, hb]; rfl⟩
theorem againAll_ok {m : Nat} {s : St} : ∀ {rd : List RdE}, (∀ e ∈ rd, CtI c e.is) →
    (∀ k, againAll rd m c s k = .bad) ∨ ((∀ j d i fr v, RdE.mk j d i fr v ∈ rd → bitN m j = false → Ag c d i fr v s) ∧ ∀ k, againAll rd m c s k = k)
  | [], _ => .inr ⟨fun _ _ _ _ _ h => (by cases h), fun _ => rfl⟩
  | .mk j d i fr v :: rd, h => by
    have e : ∀ k, againAll (.mk j d i fr v :: rd) m c s k = ifB (bitN m j) (againAll rd m c s k) (again d i c fr v s (againAll rd m c s k)) := fun _ => rfl
    have hi : CtI c i := h _ List.mem_cons_self
    rcases againAll_ok (m := m) (s := s) fun e he => h e (List.mem_cons_of_mem _ he) with h1 | ⟨h1, h2⟩
    · left; intro k; rw [e, h1]
      cases bitN m j
      · show again d i c fr v s .bad = .bad
        rcases again_ok (d := d) (fr := fr) (v := v) (s := s) hi with h3 | ⟨_, h3⟩ <;> exact h3 _
      · rfl
    · rcases hb : bitN m j with _ | _
      · rcases again_ok (d := d) (fr := fr) (v := v) (s := s) hi with h3 | ⟨h4, h3⟩
        · left; intro k; rw [e, hb]; exact h3 _
        · right
          refine ⟨fun j' d' i' fr' v' hm hj => ?_, fun k => by rw [e, hb, h2]; exact h3 _⟩
          rcases List.mem_cons.1 hm with hm | hm
          · cases hm; exact h4
          · exact h1 _ _ _ _ _ hm hj
      · right
        refine ⟨fun j' d' i' fr' v' hm hj => ?_, fun k => by rw [e, hb, h2]; rfl⟩
        rcases List.mem_cons.1 hm with hm | hm
        · cases hm; rw [hb] at hj; cases hj
        · exact h1 _ _ _ _ _ hm hj
theorem ahead_ok {m : Nat} {d : D} {i : I} {fr : Fr} {v : AV} (hi : CtI c i) : ∀ {hs : List (Nat × St)},
    (∀ k, ahead hs m d i c fr v k = .bad) ∨ ((∀ j s, (j, s) ∈ hs → bitN m j = false → Ag c d i fr v s) ∧ ∀ k, ahead hs m d i c fr v k = k)
  | [] => .inr ⟨fun _ _ h => (by cases h), fun _ => rfl⟩
  | (j, s) :: hs => by
    have e : ∀ k, ahead ((j, s) :: hs) m d i c fr v k = ifB (bitN m j) (ahead hs m d i c fr v k) (again d i c fr v s (ahead hs m d i c fr v k)) := fun _ => rfl
    rcases ahead_ok (m := m) (d := d) (fr := fr) (v := v) hi (hs := hs) with h1 | ⟨h1, h2⟩
    · left; intro k; rw [e, h1]
      cases bitN m j
      · show again d i c fr v s .bad = .bad
        rcases again_ok (d := d) (fr := fr) (v := v) (s := s) hi with h3 | ⟨_, h3⟩ <;> exact h3 _
      · rfl
    · rcases hb : bitN m j with _ | _
      · rcases again_ok (d := d) (fr := fr) (v := v) (s := s) hi with h3 | ⟨h4, h3⟩
        · left; intro k; rw [e, hb]; exact h3 _
        · right
          refine ⟨fun j' s' hm hj => ?_, fun k => by rw [e, hb, h2]; exact h3 _⟩
          rcases List.mem_cons.1 hm with hm | hm
          · cases hm; exact h4
          · exact h1 _ _ hm hj
      · right
        refine ⟨fun j' s' hm hj => ?_, fun k => by rw [e, hb, h2]; rfl⟩
        rcases List.mem_cons.1 hm with hm | hm
        · cases hm; rw [hb] at hj; cases hj
        · exact h1 _ _ hm hj
/-- What a run in the order of the text has told, of the first n operations: frames, states. -/
structure Tr (c : CallE) (L : List DI) (n : Nat) (F : Nat → Fr) (S : Nat → St) : Prop where
  step : ∀ j q, j < n → L[j]? = some q → ∃ s', (∀ k, evI q.is c (F j) (S j) k = k (F (j + 1)) s') ∧ (q.kd = .act → s' = S (j + 1)) ∧ (q.kd ≠ .act → S (j + 1) = S j)
  back : ∀ j q e p, j < n → L[j]? = some q → q.kd = .rdx → e < j → L[e]? = some p → p.kd = .act → bitN q.ms e = false → Ag c q.ds q.is (F j) (D.get q.ds (F (j + 1))) (S e)
  fwd : ∀ j q e p, e < n → L[j]? = some q → q.kd = .rdx → j < e → L[e]? = some p → p.kd = .act → bitN p.ms j = false → Ag c q.ds q.is (F j) (D.get q.ds (F (j + 1))) (S (e + 1))
/-- The functions, as they were up to j; another value behind. -/
def upd {α : Type} (j : Nat) (f : Nat → α) (v : α) : Nat → α := fun x => if x ≤ j then f x else v
theorem upd_le {α : Type} {j : Nat} {f : Nat → α} {v : α} {x : Nat} (h : x ≤ j) : upd j f v x = f x := by simp [upd, h]
theorem upd_succ {α : Type} {j : Nat} {f : Nat → α} {v : α} : upd j f v (j + 1) = v := if_neg (by omega)
theorem Tr.upd {L : List DI} {n : Nat} {F : Nat → Fr} {S : Nat → St} (h : Tr c L n F S) (f : Fr) (s : St) : Tr c L n (upd n F f) (upd n S s) := by
  refine ⟨fun j q hj hq => ?_, fun j q e p hj hq hk he hp hpk hb => ?_, fun j q e p hj hq hk he hp hpk hb => ?_⟩
  · rw [upd_le (by omega), upd_le (by omega), upd_le (by omega), upd_le (by omega)]; exact h.step j q hj hq
  · rw [upd_le (by omega), upd_le (by omega), upd_le (by omega)]; exact h.back j q e p hj hq hk he hp hpk hb
  · rw [upd_le (by omega), upd_le (by omega), upd_le (by omega)]; exact h.fwd j q e p hj hq hk he hp hpk hb
theorem tr_of {L : List DI} (hL : ∀ q ∈ L, CtI c q.is) : ∀ (l : List DI) (j : Nat) (rd : List RdE) (hs : List (Nat × St)) (F : Nat → Fr) (S : Nat → St), L.drop j = l → j + l.length = L.length → Tr c L j F S →
    (∀ i q, i < j → L[i]? = some q → q.kd = .rdx → RdE.mk i q.ds q.is (F i) (D.get q.ds (F (i + 1))) ∈ rd) → (∀ e ∈ rd, CtI c e.is) → (∀ e q, e < j → L[e]? = some q → q.kd = .act → (e, S e) ∈ hs) →
    (∀ k, evDr l j rd hs c (F j) (S j) k = .bad) ∨ ∃ F' S', F' 0 = F 0 ∧ S' 0 = S 0 ∧ Tr c L L.length F' S' ∧ ∀ k, evDr l j rd hs c (F j) (S j) k = k (F' L.length) (S' L.length)
  | [], j, rd, hs, F, S, hd, hlen, ht, hrd, hrd2, hhs => by
    have : j = L.length := by simpa using hlen
    subst this
    exact .inr ⟨F, S, rfl, rfl, ht, fun _ => rfl⟩
  | q :: l, j, rd, hs, F, S, hd, hlen, ht, hrd, hrd2, hhs => by
    have hj : j < L.length := by simp only [List.length_cons] at hlen; omega
    rw [List.drop_eq_getElem_cons hj] at hd
    obtain ⟨e1, e2⟩ := List.cons.inj hd
    have hq : L[j]? = some q := by rw [List.getElem?_eq_getElem hj, e1]
    have hlen' : j + 1 + l.length = L.length := by simp only [List.length_cons] at hlen; omega
    have hqm : CtI c q.is := hL q (e1 ▸ List.getElem_mem hj)
    obtain ⟨kd, m, d, i⟩ := q
    have hqm : CtI c i := hqm
    -- what holds of the first j holds with one frame more
    have hold : ∀ (f : Fr) (s : St), (∀ i' q, i' < j → L[i']? = some q → q.kd = .rdx → RdE.mk i' q.ds q.is (upd j F f i') (D.get q.ds (upd j F f (i' + 1))) ∈ rd) ∧ (∀ e q, e < j → L[e]? = some q → q.kd = .act → (e, upd j S s e) ∈ hs) := fun f s =>
      ⟨fun i' q hi hq hk => by rw [upd_le (by omega), upd_le (by omega)]; exact hrd i' q hi hq hk, fun e q he hq hk => by rw [upd_le (by omega)]; exact hhs e q he hq hk⟩
    rcases hqm (F j) (S j) with hbad | ⟨fr', s', hok⟩
    · left
      intro k
      cases kd
      · exact hbad _
      · exact hbad _
      · exact hbad _
      · exact hbad _
      · rfl
    · -- the steps behind a quiet operation
      have quiet : ∀ (kd' : Kd), kd' ≠ .act → L[j]? = some (.mk kd' m d i) → (kd' = .rdx → ∀ e p, e < j → L[e]? = some p → p.kd = .act → bitN m e = false → Ag c d i (F j) (D.get d fr') (S e)) →
          Tr c L (j + 1) (upd j F fr') (upd j S (S j)) := fun kd' hk hq' hb => by
        have hu := ht.upd fr' (S j)
        refine ⟨fun x q hx hq2 => ?_, fun x q e p hx hq2 hk2 he hp hpk hbit => ?_, fun x q e p hx hq2 hk2 he hp hpk hbit => ?_⟩
        · rcases Nat.lt_succ_iff_lt_or_eq.1 hx with hx | rfl
          · exact hu.step x q hx hq2
          · rw [hq'] at hq2; cases hq2
            rw [upd_le (Nat.le_refl _), upd_le (Nat.le_refl _), upd_succ, upd_succ]
            exact ⟨s', hok, fun e => absurd e hk, fun _ => rfl⟩
        · rcases Nat.lt_succ_iff_lt_or_eq.1 hx with hx | rfl
          · exact hu.back x q e p hx hq2 hk2 he hp hpk hbit
          · rw [hq'] at hq2; cases hq2
            rw [upd_le (Nat.le_refl _), upd_succ, upd_le (by omega)]
            exact hb hk2 e p he hp hpk hbit
        · rcases Nat.lt_succ_iff_lt_or_eq.1 hx with hx | rfl
          · exact hu.fwd x q e p hx hq2 hk2 he hp hpk hbit
          · rw [hq'] at hp; cases hp; exact absurd hpk hk
      have hF : upd j F fr' (j + 1) = fr' := upd_succ
      have hS : ∀ t : St, upd j S t (j + 1) = t := fun _ => upd_succ
      have hqe : ∀ q, L[j]? = some q → q = .mk kd m d i := fun q h => by rw [hq] at h; exact (Option.some.inj h).symm
      cases kd with
      | pure =>
        have := tr_of hL l (j + 1) rd hs _ _ e2 hlen' (quiet .pure (by simp) hq (fun e => by cases e))
          (fun i' q hi hq' hk => by
            rcases Nat.lt_succ_iff_lt_or_eq.1 hi with hi | rfl
            · exact (hold fr' (S j)).1 i' q hi hq' hk
            · rw [hqe q hq'] at hk; cases hk) hrd2
          (fun e q he hq' hk => by
            rcases Nat.lt_succ_iff_lt_or_eq.1 he with he | rfl
            · exact (hold fr' (S j)).2 e q he hq' hk
            · rw [hqe q hq'] at hk; cases hk)
        rw [hF, hS] at this
        have e3 : ∀ k, evDr (.mk .pure m d i :: l) j rd hs c (F j) (S j) k = evDr l (j + 1) rd hs c fr' (S j) k := fun k => hok _
        simp only [e3]
        rcases this with h | ⟨F', S', h1, h2, h3, h4⟩
        · exact .inl h
        · exact .inr ⟨F', S', by rw [h1, upd_le (Nat.zero_le _)], by rw [h2, upd_le (Nat.zero_le _)], h3, h4⟩
      | read =>
        have := tr_of hL l (j + 1) rd hs _ _ e2 hlen' (quiet .read (by simp) hq (fun e => by cases e))
          (fun i' q hi hq' hk => by
            rcases Nat.lt_succ_iff_lt_or_eq.1 hi with hi | rfl
            · exact (hold fr' (S j)).1 i' q hi hq' hk
            · rw [hqe q hq'] at hk; cases hk) hrd2
          (fun e q he hq' hk => by
            rcases Nat.lt_succ_iff_lt_or_eq.1 he with he | rfl
            · exact (hold fr' (S j)).2 e q he hq' hk
            · rw [hqe q hq'] at hk; cases hk)
        rw [hF, hS] at this
        have e3 : ∀ k, evDr (.mk .read m d i :: l) j rd hs c (F j) (S j) k = evDr l (j + 1) rd hs c fr' (S j) k := fun k => hok _
        simp only [e3]
        rcases this with h | ⟨F', S', h1, h2, h3, h4⟩
        · exact .inl h
        · exact .inr ⟨F', S', by rw [h1, upd_le (Nat.zero_le _)], by rw [h2, upd_le (Nat.zero_le _)], h3, h4⟩
      | flo => exact .inl fun _ => rfl
      | rdx =>
        have e3 : ∀ k, evDr (.mk .rdx m d i :: l) j rd hs c (F j) (S j) k = ahead hs m d i c (F j) (D.get d fr') (evDr l (j + 1) (.mk j d i (F j) (D.get d fr') :: rd) hs c fr' (S j) k) := fun k => hok _
        simp only [e3]
        rcases ahead_ok (i := i) (m := m) (d := d) (fr := F j) (v := D.get d fr') hqm (hs := hs) with h | ⟨h, h'⟩
        · exact .inl fun k => h _
        · have := tr_of hL l (j + 1) (.mk j d i (F j) (D.get d fr') :: rd) hs _ _ e2 hlen' (quiet .rdx (by simp) hq (fun _ e p he hp hpk hb => h e (S e) (hhs e p he hp hpk) hb))
            (fun i' q hi hq' hk => by
              rcases Nat.lt_succ_iff_lt_or_eq.1 hi with hi | rfl
              · exact List.mem_cons_of_mem _ ((hold fr' (S j)).1 i' q hi hq' hk)
              · rw [hqe q hq', upd_le (Nat.le_refl _), upd_succ]; exact List.mem_cons_self)
            (fun e he => by
              rcases List.mem_cons.1 he with rfl | he
              · exact hqm
              · exact hrd2 e he)
            (fun e q he hq' hk => by
              rcases Nat.lt_succ_iff_lt_or_eq.1 he with he | rfl
              · exact (hold fr' (S j)).2 e q he hq' hk
              · rw [hqe q hq'] at hk; cases hk)
          rw [hF, hS] at this
          simp only [h']
          rcases this with h | ⟨F', S', h1, h2, h3, h4⟩
          · exact .inl h
          · exact .inr ⟨F', S', by rw [h1, upd_le (Nat.zero_le _)], by rw [h2, upd_le (Nat.zero_le _)], h3, h4⟩
      | act =>
        have e3 : ∀ k, evDr (.mk .act m d i :: l) j rd hs c (F j) (S j) k = againAll rd m c s' (evDr l (j + 1) rd ((j, S j) :: hs) c fr' s' k) := fun k => hok _
        simp only [e3]
        rcases againAll_ok (m := m) (s := s') hrd2 with h | ⟨h, h'⟩
        · exact .inl fun k => h _
        · have hu := ht.upd fr' s'
          have htr : Tr c L (j + 1) (upd j F fr') (upd j S s') := by
            refine ⟨fun x q hx hq2 => ?_, fun x q e p hx hq2 hk2 he hp hpk hbit => ?_, fun x q e p hx hq2 hk2 he hp hpk hbit => ?_⟩
            · rcases Nat.lt_succ_iff_lt_or_eq.1 hx with hx | rfl
              · exact hu.step x q hx hq2
              · rw [hqe q hq2, upd_le (Nat.le_refl _), upd_le (Nat.le_refl _), upd_succ, upd_succ]
                exact ⟨s', hok, fun _ => rfl, fun e => absurd rfl e⟩
            · rcases Nat.lt_succ_iff_lt_or_eq.1 hx with hx | rfl
              · exact hu.back x q e p hx hq2 hk2 he hp hpk hbit
              · rw [hqe q hq2] at hk2; cases hk2
            · rcases Nat.lt_succ_iff_lt_or_eq.1 hx with hx | rfl
              · exact hu.fwd x q e p hx hq2 hk2 he hp hpk hbit
              · rw [hqe p hp] at hbit
                rw [upd_le (by omega), upd_le (by omega), upd_succ]
                exact h _ _ _ _ _ (hrd x q he hq2 hk2) hbit
          have := tr_of hL l (j + 1) rd ((j, S j) :: hs) _ _ e2 hlen' htr
            (fun i' q hi hq' hk => by
              rcases Nat.lt_succ_iff_lt_or_eq.1 hi with hi | rfl
              · exact (hold fr' s').1 i' q hi hq' hk
              · rw [hqe q hq'] at hk; cases hk) hrd2
            (fun e q he hq' hk => by
              rcases Nat.lt_succ_iff_lt_or_eq.1 he with he | rfl
              · exact List.mem_cons_of_mem _ ((hold fr' s').2 e q he hq' hk)
              · rw [upd_le (Nat.le_refl _)]; exact List.mem_cons_self)
          rw [hF, hS] at this
          simp only [h']
          rcases this with h | ⟨F', S', h1, h2, h3, h4⟩
          · exact .inl h
          · exact .inr ⟨F', S', by rw [h1, upd_le (Nat.zero_le _)], by rw [h2, upd_le (Nat.zero_le _)], h3, h4⟩
end
end Go.Proofs.YtenpbpgoglepfaaGreatDoor
namespace Go.Proofs.YtenpbpgoglepfaaGreatDoor
open Go.RowKit
set_option linter.unusedVariables false

noncomputable def F.of {α : Type} (g : H → α) : F α := F.mk (g .h0) (g .h1) (g .h2) (g .h3) (g .h4) (g .h5) (g .h6) (g .h7) (g .h8) (g .h9) (g .ha) (g .hb) (g .hc) (g .hd) (g .he) (g .hf)
theorem F.get_of {α : Type} (g : H → α) (h : H) : F.get h (F.of g) = g h := by cases h <;> rfl
noncomputable def frOf (g : H → H → AV) : Fr := F.of fun h => F.of (g h)
theorem frOf_get (g : H → H → AV) (h l : H) : F.get l (F.get h (frOf g)) = g h l := by unfold frOf; rw [F.get_of, F.get_of]
theorem D.get_put_same (d : D) (v w : AV) (fr fr' : Fr) (h : D.put d v fr = D.put d w fr') : D.get d (D.put d v fr) = D.get d (D.put d w fr') := by rw [h]
theorem D.put_no (v : AV) (fr : Fr) : D.put .no v fr = fr := rfl
theorem D.get_to (p q : H) (fr : Fr) : D.get (.to p q) fr = F.get q (F.get p fr) := rfl
theorem D.get_no (fr : Fr) : D.get .no fr = .u := rfl
theorem D.get_to_put (p q : H) (v : AV) (fr : Fr) : D.get (.to p q) (D.put (.to p q) v fr) = v := by rw [D.get_to, D.get_put]; simp
/-- A frame's value, alone. -/
noncomputable def enc (d : D) : K := fun f t => .nrm (D.put d (D.get d f) emptyFr) t
theorem enc_put (d : D) (v : AV) (fr fr' : Fr) (t : St) : enc d (D.put d v fr) t = enc d (D.put d v fr') t := by
  cases d with
  | no => rfl
  | to p q => unfold enc; rw [D.get_to_put, D.get_to_put]
theorem enc_inj {d : D} {f f' : Fr} {t t' : St} (h : enc d f t = enc d f' t') : D.get d f = D.get d f' ∧ t = t' := by
  unfold enc at h
  injection h with h1 h2
  refine ⟨?_, h2⟩
  cases d with
  | no => rfl
  | to p q =>
    have := congrArg (D.get (.to p q)) h1
    rwa [D.get_to_put, D.get_to_put] at this
theorem wpOpIn_put {P : Program} {ro : Option Nat} {ops : Array Oper} {Q : Exit → Act → World → Prop} {i : Nat} {o : Oper} (ho : ops[i]? = some o) {K : Act → World → Prop} {a : Act} {w : World} (h : wpOpIn (Wd ro) 0 P ops Q i K a w) :
    wpOpIn (Wd ro) 0 P ops Q i (fun a' w' => K a' w' ∧ ∃ v, a'.tmps = (a.put o.dst v).tmps) a w := by
  unfold wpOpIn at *
  rw [ho] at h ⊢
  simp only at h ⊢
  split
  · rename_i hw
    simp only [hw, if_true] at h
    refine ⟨h.1, ?_⟩
    replace h := h.2
    generalize (o.semAt (Wd ro).round a.eval).run P w = r at *
    cases r with
    | ok n w' =>
      cases n <;> simp only [Oper.uponIn] at h ⊢ <;>
        first
          | exact ⟨h, _, rfl⟩
          | exact ⟨h.1, CallsIn.mono h.2 (fun e w'' he => by cases e <;> first | exact ⟨he, _, rfl⟩ | exact he)⟩
          | exact ⟨h.1, RowsIn.mono h.2 (fun _ _ he => ⟨he, _, rfl⟩)⟩
          | exact ⟨h.1, RoundIn.mono h.2 (fun e w'' he => by cases e <;> first | exact ⟨he, _, rfl⟩ | exact he)⟩
          | (refine ⟨h, undef, ?_⟩; cases o.dst <;> rfl)
    | halt x w' => cases x <;> simp only [Oper.uponIn] at h ⊢ <;> exact h
  · rename_i hw
    simp only [hw] at h
    exact ⟨h.1, h.2, _, rfl⟩
theorem least_of {p : Nat → Prop} : ∀ {n : Nat}, p n → ∃ e, p e ∧ ∀ j, j < e → ¬ p j := by
  intro n
  induction n using Nat.strongRecOn with
  | ind n ih =>
    intro h
    by_cases hx : ∃ j, j < n ∧ p j
    · obtain ⟨j, h1, h2⟩ := hx; exact ih j h1 h2
    · exact ⟨n, h, fun j hj hp => hx ⟨j, hj, hp⟩⟩
/-- What the check of a region says. -/
structure DrOk (P : Program) (NG N : Nat) (mt : Mt) (ops : Array Oper) (L : List DI) : Prop where
  len : ops.size = L.length
  nofl : ∀ (j : Nat) (q : DI), L[j]? = some q → q.kd ≠ .flo
  snd : ∀ (j : Nat) (o : Oper) (q : DI), ops[j]? = some o → L[j]? = some q → okG (ckJ P NG N mt) N ops o q.is = true ∧ dB o.dst q.ds = true ∧ dstI q.is = q.ds ∧ gdI q.is ∧ (q.kd = .pure → pureI q.is = true) ∧ (q.kd ≠ .act → readI q.is = true)
  low : ∀ (j : Nat) (q : DI), L[j]? = some q → ∀ e, bitN q.ms e = true → e < j
  edge : ∀ (j : Nat) (o : Oper) (q : DI), ops[j]? = some o → L[j]? = some q → ∀ e ∈ o.after, Region.binds .any e = true → bitN q.ms e.on = true
  clos : ∀ (j : Nat) (o : Oper) (q : DI), ops[j]? = some o → L[j]? = some q → ∀ e, bitN q.ms e = true → ∃ x ∈ o.after, Region.binds .any x = true ∧ (x.on = e ∨ ∃ p, L[x.on]? = some p ∧ bitN p.ms e = true)
  chain : ∀ (i j : Nat) (p q : DI), L[i]? = some p → L[j]? = some q → i < j → p.kd = .act → q.kd = .act → bitN q.ms i = true
  rd1 : ∀ (i j : Nat) (p q : DI), L[i]? = some p → L[j]? = some q → i < j → p.kd = .act → q.kd = .read → bitN q.ms i = true
  rd2 : ∀ (i j : Nat) (p q : DI), L[i]? = some p → L[j]? = some q → i < j → p.kd = .read → q.kd = .act → bitN q.ms i = true
  dst : ∀ (i j : Nat) (p q : DI), L[i]? = some p → L[j]? = some q → i ≠ j → ∀ h l, p.ds = .to h l → q.ds ≠ .to h l
  opd : ∀ (i j : Nat) (p q : DI), L[i]? = some p → L[j]? = some q → ∀ h l, X.t h l ∈ rdsI q.is → p.ds = .to h l → bitN q.ms i = true ∨ bitN p.ms j = true

section
variable {P : Program} {NG : Env} {B0 N : Nat} {ro : Option Nat} {mt : Mt} {ops : Array Oper} {L : List DI} {c : CallE} {Fm : Nat → Fr} {S : Nat → St}
theorem Tr.shape (h : DrOk P NG N mt ops L) (ht : Tr c L L.length Fm S) {j : Nat} {q : DI} (hq : L[j]? = some q) : Fm (j + 1) = D.put q.ds (D.get q.ds (Fm (j + 1))) (Fm j) := by
  have hj := (List.getElem?_eq_some_iff.1 hq).1
  obtain ⟨s', h1, _⟩ := ht.step j q hj hq
  obtain ⟨o, ho⟩ : ∃ o, ops[j]? = some o := ⟨_, Array.getElem?_eq_getElem (by rw [h.len]; exact hj)⟩
  obtain ⟨_, _, hd, hg, _⟩ := h.snd j o q ho hq
  have := loc (fr := Fm j) (fr' := Fm j) (c := c) (s := S j) (k := .nrm) (k' := fun f t => .nrm (D.put q.ds (D.get q.ds f) (Fm j)) t) q.is hg (fun _ _ => rfl) (fun v t => by
    rw [hd]
    cases hds : q.ds with
    | no => rfl
    | to x y => rw [D.get_to_put])
  rw [h1, h1] at this
  injection this
theorem Tr.get_far (h : DrOk P NG N mt ops L) (ht : Tr c L L.length Fm S) {x y : H} : ∀ {m : Nat} {m' : Nat}, m' ≤ m → m ≤ L.length → (∀ (j : Nat) (q : DI), m' ≤ j → j < m → L[j]? = some q → q.ds ≠ .to x y) → F.get y (F.get x (Fm m)) = F.get y (F.get x (Fm m')) := by
  intro m
  induction m with
  | zero => intro m' hm _ _; obtain rfl : m' = 0 := by omega
            rfl
  | succ m ih =>
    intro m' hm hl hf
    by_cases e : m' = m + 1
    · rw [e]
    · have hq : L[m]? = some L[m] := List.getElem?_eq_getElem (by omega)
      rw [ht.shape h hq]
      have hne := hf m _ (by omega) (by omega) hq
      cases hd : L[m].ds with
      | no => rw [D.put_no]; exact ih (by omega) (by omega) fun j q h1 h2 hq => hf j q h1 (by omega) hq
      | to p q =>
        rw [D.get_put, if_neg (fun e => hne (by rw [hd, e.1, e.2]))]
        exact ih (by omega) (by omega) fun j q h1 h2 hq => hf j q h1 (by omega) hq
/-- A slot that an operation ahead has written. -/
theorem Tr.get_near (h : DrOk P NG N mt ops L) (ht : Tr c L L.length Fm S) {x y : H} {j m : Nat} {q : DI} (hq : L[j]? = some q) (hd : q.ds = .to x y) (hj : j < m) (hm : m ≤ L.length) : F.get y (F.get x (Fm m)) = D.get q.ds (Fm (j + 1)) := by
  rw [hd, D.get_to]
  refine ht.get_far h (by omega) hm fun i p h1 h2 hp => ?_
  exact h.dst j i q p hq hp (by omega) x y hd
theorem Tr.const (ht : Tr c L L.length Fm S) : ∀ {b a : Nat}, a ≤ b → b ≤ L.length → (∀ (j : Nat) (q : DI), a ≤ j → j < b → L[j]? = some q → q.kd ≠ .act) → S b = S a := by
  intro b
  induction b with
  | zero => intro a h _ _; obtain rfl : a = 0 := by omega
            rfl
  | succ b ih =>
    intro a h hb hq
    by_cases e : a = b + 1
    · rw [e]
    · have hl : L[b]? = some L[b] := List.getElem?_eq_getElem (by omega)
      obtain ⟨s', _, _, h3⟩ := ht.step b _ (by omega) hl
      rw [h3 (hq b _ (by omega) (by omega) hl)]
      exact ih (by omega) (by omega) fun j q h1 h2 hq' => hq j q h1 (by omega) hq'
/-- Two places of the order with the same acts ahead. -/
theorem Tr.same (ht : Tr c L L.length Fm S) {a b : Nat} (ha : a ≤ L.length) (hb : b ≤ L.length) (h : ∀ (j : Nat) (q : DI), L[j]? = some q → q.kd = .act → (j < a ↔ j < b)) : S a = S b := by
  rcases Nat.le_total a b with e | e
  · exact (ht.const e hb fun j q h1 h2 hq hk => by have := h j q hq hk; omega).symm
  · exact ht.const e ha fun j q h1 h2 hq hk => by have := h j q hq hk; omega
/-- What holds when so much is done. -/
structure DrI (B0 N : Nat) (L : List DI) (Fm : Nat → Fr) (S : Nat → St) (r0 : Rho) (w0 : World) (df : List Deferred) (listed : Array Bool) (a : Act) (w : World) (q : Nat) (r : Rho) : Prop where
  size : listed.size = L.length
  hq : q ≤ L.length
  acts : ∀ (j : Nat) (x : DI), L[j]? = some x → x.kd = .act → (listed.getD j false = true ↔ j < q)
  sim : Sim B0 r (S q) w
  stp : Stp r0 (S 0) w0 r (S q) w
  clos : ∀ (j : Nat) (x : DI), L[j]? = some x → listed.getD j false = true → ∀ e, bitN x.ms e = true → listed.getD e false = true
  tsz : a.tmps.size = N
  dfr : a.defers = df
  far : ∀ h l v, (∀ (j : Nat) (x : DI), L[j]? = some x → x.ds = .to h l → listed.getD j false ≠ true) → a.tmps[slotN h l]? = some v → Rel r (F.get l (F.get h (Fm 0))) v
  near : ∀ (j : Nat) (x : DI) h l v, L[j]? = some x → x.ds = .to h l → listed.getD j false = true → a.tmps[slotN h l]? = some v → Rel r (D.get x.ds (Fm (j + 1))) v
theorem getD_set {l : Array Bool} {i j : Nat} (hi : i < l.size) : (l.setIfInBounds i true).getD j false = true ↔ j = i ∨ l.getD j false = true := by
  rw [Array.getD_eq_getD_getElem?, Array.getD_eq_getD_getElem?]
  by_cases e : i = j
  · subst e; rw [Array.getElem?_setIfInBounds_self]; simp [hi]
  · rw [Array.getElem?_setIfInBounds_ne e]
    constructor
    · exact .inr
    · rintro (h | h)
      · exact absurd h.symm e
      · exact h
open Classical in
theorem dr_step (hk : Kn P mt) (h : DrOk P NG N mt ops L) (ht : Tr c L L.length Fm S) (hc : CAll P NG B0 c) {df : List Deferred} {r0 : Rho} {w0 : World} (hb0 : Base NG r0) {listed : Array Bool} {a : Act} {w : World} {q : Nat} {r : Rho} (hI : DrI B0 N L Fm S r0 w0 df listed a w q r)
    {i : Nat} (hi : i ∈ Region.ready .any ops listed) {Q : Exit → Act → World → Prop} {K : Act → World → Prop} (hK : ∀ a' w' q' r', DrI B0 N L Fm S r0 w0 df (listed.setIfInBounds i true) a' w' q' r' → K a' w') : wpOpIn (Wd ro) 0 P ops Q i K a w := by
  obtain ⟨hnl, o, ho, haf⟩ := mem_ready.1 hi
  have hio : i < ops.size := (Array.getElem?_eq_some_iff.1 ho).1
  have hiL : i < L.length := by rw [← h.len]; exact hio
  obtain ⟨x, hx⟩ : ∃ x, L[i]? = some x := ⟨_, List.getElem?_eq_getElem hiL⟩
  obtain ⟨hok, hdB, hds, hg, hpu, hre⟩ := h.snd i o x ho hx
  have hnl' : listed.getD i false ≠ true := by
    rw [Array.getD_eq_getD_getElem?, Array.getElem?_eq_getElem (show i < listed.size by rw [hI.size]; exact hiL)] at hnl ⊢
    simp only [Option.getD_some] at hnl ⊢
    rw [hnl]; simp
  have hmask : ∀ e, bitN x.ms e = true → listed.getD e false = true := fun e he => by
    obtain ⟨z, hz, hbz, hz2⟩ := h.clos i o x ho hx e he
    have hl := haf z hz hbz
    rcases hz2 with rfl | ⟨p, hp, hpe⟩
    · exact hl
    · exact hI.clos _ p hp hl e hpe
  -- the frame that tells what i waits for alone
  let fs : Fr := frOf fun p l => if ∃ (j : Nat) (y : DI), L[j]? = some y ∧ y.ds = .to p l ∧ bitN x.ms j = false ∧ bitN y.ms i = false then .u else F.get l (F.get p (Fm i))
  have hlater : ∀ j y, L[j]? = some y → bitN y.ms i = true → listed.getD j false ≠ true := fun j y hy hb hl => hnl' (hI.clos j y hy hl i hb)
  have hfs : FrR N r fs a := by
    refine ⟨hI.tsz, fun p l v hv => ?_⟩
    rw [frOf_get]
    split
    · trivial
    · rename_i hno
      by_cases hany : ∃ (j : Nat) (y : DI), L[j]? = some y ∧ y.ds = .to p l
      · obtain ⟨j, y, hy, hyd⟩ := hany
        by_cases hbit : bitN x.ms j = true
        · rw [ht.get_near h hy hyd (h.low i x hx j hbit) (Nat.le_of_lt hiL)]
          exact hI.near j y p l v hy hyd (hmask j hbit) hv
        · have hby : bitN y.ms i = true := by
            cases hb : bitN y.ms i
            · exact absurd ⟨j, y, hy, hyd, by simpa using hbit, hb⟩ hno
            · rfl
          have hij := h.low j y hy i hby
          have huniq : ∀ j' z, L[j']? = some z → z.ds = .to p l → j' = j := fun j' z hz hzd => by
            by_cases e : j' = j
            · exact e
            · exact absurd hyd (h.dst j' j z y hz hy e p l hzd)
          rw [ht.get_far h (Nat.zero_le i) (Nat.le_of_lt hiL) fun j' z _ h2 hz hzd => by have := huniq j' z hz hzd; omega]
          exact hI.far p l v (fun j' z hz hzd => by rw [huniq j' z hz hzd]; exact hlater j y hy hby) hv
      · rw [ht.get_far h (Nat.zero_le i) (Nat.le_of_lt hiL) fun j y _ _ hy hyd => hany ⟨j, y, hy, hyd⟩]
        exact hI.far p l v (fun j y hy hyd => absurd ⟨j, y, hy, hyd⟩ hany) hv
  have hopd : ∀ z ∈ rdsI x.is, X.ev z (Fm i) = X.ev z fs := fun z hz => by
    cases z with
    | k v => rfl
    | t p l =>
      show F.get l (F.get p (Fm i)) = F.get l (F.get p fs)
      rw [frOf_get, if_neg]
      rintro ⟨j, y, hy, hyd, hb, hb2⟩
      rcases h.opd j i y x hy hx p l hz hyd with this | this
      · rw [hb] at this; cases this
      · rw [hb2] at this; cases this
  obtain ⟨s1, hst, hsa, hsq⟩ := ht.step i x hiL hx
  -- the value there, from the run in the order of the text
  have hval : ∃ f1 s1, (∀ k, evI x.is c (Fm i) (S q) k = k f1 s1) ∧ D.get x.ds f1 = D.get x.ds (Fm (i + 1)) ∧ (x.kd = .act → S q = S i ∧ s1 = S (i + 1)) := by
    have hactq : x.kd = .act → S q = S i := fun hka => ht.same hI.hq (Nat.le_of_lt hiL) fun j y hy hky => by
      rw [← hI.acts j y hy hky]
      constructor
      · intro hl
        rcases Nat.lt_trichotomy j i with e | e | e
        · exact e
        · rw [e] at hl; exact absurd hl hnl'
        · exact absurd hl (hlater j y hy (h.chain i j x y hx hy e hka hky))
      · intro hlt
        exact hmask j (h.chain j i y x hy hx hlt hky hka)
    cases hkd : x.kd with
    | act =>
      have e := hactq hkd
      exact ⟨_, s1, by rw [e]; exact hst, rfl, fun _ => ⟨e, hsa hkd⟩⟩
    | pure =>
      refine ⟨Fm (i + 1), S q, fun k => ?_, rfl, fun e => by cases e⟩
      have := locS (fr := Fm i) (c := c) (s := S q) (s' := S i) (k := k) (k' := fun f _ => k f (S q)) x.is (hpu hkd) hg fun v => rfl
      rw [this, hst]
    | read =>
      have e : S q = S i := ht.same hI.hq (Nat.le_of_lt hiL) fun j y hy hky => by
        rw [← hI.acts j y hy hky]
        constructor
        · intro hl
          rcases Nat.lt_trichotomy j i with e | e | e
          · exact e
          · rw [e] at hl; exact absurd hl hnl'
          · exact absurd hl (hlater j y hy (h.rd2 i j x y hx hy e hkd hky))
        · intro hlt
          exact hmask j (h.rd1 j i y x hy hx hlt hky hkd)
      exact ⟨_, s1, by rw [e]; exact hst, rfl, fun e => by cases e⟩
    | flo => exact absurd hkd (h.nofl i x hx)
    | rdx =>
      have hag : ∀ s, Ag c x.ds x.is (Fm i) (D.get x.ds (Fm (i + 1))) s → S q = s → ∃ f1 s1, (∀ k, evI x.is c (Fm i) (S q) k = k f1 s1) ∧ D.get x.ds f1 = D.get x.ds (Fm (i + 1)) ∧ (Kd.rdx = .act → S q = S i ∧ s1 = S (i + 1)) := fun s ⟨f1, s2, h1, h2⟩ e => ⟨f1, s2, by rw [e]; exact h1, h2, fun e => by cases e⟩
      by_cases hq1 : ∃ (j : Nat) (y : DI), L[j]? = some y ∧ y.kd = .act ∧ q ≤ j ∧ j < i
      · -- the least act that is not done
        obtain ⟨e, he, hmin⟩ : ∃ e, (∃ y, L[e]? = some y ∧ y.kd = .act ∧ q ≤ e ∧ e < i) ∧ ∀ j, j < e → ¬ ∃ y, L[j]? = some y ∧ y.kd = .act ∧ q ≤ j ∧ j < i := by
          obtain ⟨j, hj⟩ := hq1
          exact least_of (p := fun e => ∃ y, L[e]? = some y ∧ y.kd = .act ∧ q ≤ e ∧ e < i) hj
        obtain ⟨y, hy, hky, hqe, hei⟩ := he
        have hb : bitN x.ms e = false := by
          cases hb : bitN x.ms e
          · rfl
          · have := (hI.acts e y hy hky).1 (hmask e hb); omega
        refine hag _ (ht.back i x e y hiL hx hkd hei hy hky hb) (ht.same hI.hq (by omega) fun j z hz hkz => ?_)
        constructor
        · intro hj; omega
        · intro hj
          rcases Nat.lt_or_ge j q with h1 | h1
          · exact h1
          · exact absurd ⟨z, hz, hkz, h1, by omega⟩ (hmin j hj)
      · by_cases hq2 : ∃ (j : Nat) (y : DI), L[j]? = some y ∧ y.kd = .act ∧ i < j ∧ j < q
        · -- the last act that is done
          obtain ⟨e, he, hmax⟩ : ∃ e, (∃ y, L[e]? = some y ∧ y.kd = .act ∧ i < e ∧ e < q) ∧ ∀ j, e < j → ¬ ∃ y, L[j]? = some y ∧ y.kd = .act ∧ i < j ∧ j < q := by
            have key : ∀ m, m ≤ q → (∃ (j : Nat) (y : DI), L[j]? = some y ∧ y.kd = .act ∧ i < j ∧ q - m ≤ j ∧ j < q) → ∃ e, (∃ y, L[e]? = some y ∧ y.kd = .act ∧ i < e ∧ e < q) ∧ ∀ j, e < j → ¬ ∃ y, L[j]? = some y ∧ y.kd = .act ∧ i < j ∧ j < q := by
              intro m
              induction m with
              | zero => rintro _ ⟨j, y, _, _, _, h1, h2⟩; omega
              | succ m ih =>
                rintro hm ⟨j, y, hy, hky, hij, h1, h2⟩
                by_cases hne : ∃ (j : Nat) (y : DI), L[j]? = some y ∧ y.kd = .act ∧ i < j ∧ q - m ≤ j ∧ j < q
                · exact ih (by omega) hne
                · have hj : j = q - (m + 1) := by
                    rcases Nat.lt_or_ge j (q - m) with h3 | h3
                    · omega
                    · exact absurd ⟨j, y, hy, hky, hij, h3, h2⟩ hne
                  refine ⟨j, ⟨y, hy, hky, hij, h2⟩, fun j' hj' ⟨z, hz, hkz, h3, h4⟩ => hne ⟨j', z, hz, hkz, h3, by omega, h4⟩⟩
            obtain ⟨j, y, hy, hky, h1, h2⟩ := hq2
            exact key q (Nat.le_refl _) ⟨j, y, hy, hky, h1, by omega, h2⟩
          obtain ⟨y, hy, hky, hie, heq⟩ := he
          have hb : bitN y.ms i = false := by
            cases hb : bitN y.ms i
            · rfl
            · exact absurd ((hI.acts e y hy hky).2 heq) (hlater e y hy hb)
          have heL : e < L.length := (List.getElem?_eq_some_iff.1 hy).1
          refine hag _ (ht.fwd i x e y heL hx hkd hie hy hky hb) (ht.same hI.hq (by omega) fun j z hz hkz => ?_)
          constructor
          · intro hj
            rcases Nat.lt_or_ge e j with h1 | h1
            · exact absurd ⟨z, hz, hkz, by omega, hj⟩ (hmax j h1)
            · omega
          · intro hj; omega
        · have e : S q = S i := ht.same hI.hq (Nat.le_of_lt hiL) fun j z hz hkz => by
            constructor
            · intro hj
              rcases Nat.lt_trichotomy j i with e | e | e
              · exact e
              · rw [e, hx] at hz; cases hz; rw [hkd] at hkz; cases hkz
              · exact absurd ⟨j, z, hz, hkz, e, hj⟩ hq2
            · intro hj
              rcases Nat.lt_or_ge j q with h1 | h1
              · exact h1
              · exact absurd ⟨j, z, hz, hkz, h1, hj⟩ hq1
          exact ⟨_, s1, by rw [e]; exact hst, rfl, fun e => by cases e⟩
  obtain ⟨f1, t1, hf1, hv1, hact1⟩ := hval
  -- .. and in the frame that tells less
  have hloc := loc (fr := Fm i) (fr' := fs) (c := c) (s := S q) (k := enc x.ds) (k' := enc x.ds) x.is hg hopd (fun v t => by rw [hds]; exact enc_put _ _ _ _ _)
  rw [hf1] at hloc
  rcases snd_g (P := P) (NG := NG) (B0 := B0) (N := N) (C := CAll P NG B0) (ro := ro) (fun o i h => snd_cj hk h) ho hok hc fs (S q) with hbad | ⟨f2, t2, hf2, hdo⟩
  · rw [hbad] at hloc; cases hloc
  rw [hf2] at hloc
  obtain ⟨hv2, rfl⟩ := enc_inj hloc
  have hkeep : x.kd ≠ .act → t1 = S q := fun hka => by
    have := locK (fr := fs) (c := c) (s := S q) (k := .nrm) (k' := fun f _ => .nrm f (S q)) x.is (hre hka) hg fun v => rfl
    rw [hf2, hf2] at this
    injection this
  have hqn : ∃ q', q' ≤ L.length ∧ S q' = t1 ∧ ∀ j y, L[j]? = some y → y.kd = .act → ((listed.setIfInBounds i true).getD j false = true ↔ j < q') := by
    have hsz : i < listed.size := by rw [hI.size]; exact hiL
    by_cases hka : x.kd = .act
    · refine ⟨i + 1, hiL, (hact1 hka).2.symm, fun j y hy hky => ?_⟩
      rw [getD_set hsz]
      constructor
      · rintro (e | hl)
        · omega
        · rcases Nat.lt_trichotomy j i with e | e | e
          · omega
          · omega
          · exact absurd (hI.clos j y hy hl i (h.chain i j x y hx hy e hka hky)) hnl'
      · intro hj
        by_cases e : j = i
        · exact .inl e
        · exact .inr (hmask j (h.chain j i y x hy hx (by omega) hky hka))
    · refine ⟨q, hI.hq, (hkeep hka).symm, fun j y hy hky => ?_⟩
      rw [getD_set hsz, ← hI.acts j y hy hky]
      constructor
      · rintro (e | hl)
        · rw [e, hx] at hy; cases hy; exact absurd hky hka
        · exact hl
      · exact .inr
  obtain ⟨q', hq', hSq', hacts'⟩ := hqn
  refine wpOpIn_mono ?_ (wpOpIn_put ho (hdo r w a (hb0.le hI.stp.le) hI.sim hfs Q (fun a' w' => ∃ r', Sim B0 r' t1 w' ∧ Stp r (S q) w r' t1 w' ∧ FrR N r' f2 a' ∧ a'.defers = a.defers) fun a' w' r' k1 k2 k3 k4 => ⟨r', k1, k2, k3, k4⟩))
  rintro a' w' ⟨⟨r', k1, k2, k3, k4⟩, v, hv⟩
  have hsz : i < listed.size := by rw [hI.size]; exact hiL
  -- a slot that i does not write stays
  have hstay : ∀ p l, x.ds ≠ .to p l → a'.tmps[slotN p l]? = a.tmps[slotN p l]? := fun p l hne => by
    rw [hv, put_get', if_neg]
    intro hod
    rw [hod] at hdB
    cases hxd : x.ds with
    | no => rw [hxd] at hdB; cases hdB
    | to p' l' =>
      rw [hxd] at hdB hne
      simp only [dB, beq_iff_eq] at hdB
      obtain ⟨rfl, rfl⟩ := slotN_inj hdB
      exact hne rfl
  refine hK a' w' q' r' ⟨by simpa using hI.size, hq', hacts', by rw [hSq']; exact k1, by rw [hSq']; exact hI.stp.trans k2, fun j y hy hl e he => ?_, k3.size, k4.trans hI.dfr, fun p l v' hno hv' => ?_, fun j y p l v' hy hyd hl hv' => ?_⟩
  · rw [getD_set hsz] at hl ⊢
    rcases hl with e' | hl
    · rw [e', hx] at hy; cases hy
      exact .inr (hmask e he)
    · exact .inr (hI.clos j y hy hl e he)
  · rw [hstay p l (fun e => hno i x hx e ((getD_set hsz).2 (.inl rfl)))] at hv'
    exact (hI.far p l v' (fun j y hy hyd hl => hno j y hy hyd ((getD_set hsz).2 (.inr hl))) hv').le k2.le
  · by_cases e : j = i
    · rw [e, hx] at hy; cases hy
      rw [e, ← hv1, hv2, hyd, D.get_to]
      exact k3.get p l v' hv'
    · rw [getD_set hsz] at hl
      have hl := hl.resolve_left e
      rw [hstay p l (h.dst j i y x hy hx e p l hyd)] at hv'
      exact (hI.near j y p l v' hy hyd hl hv').le k2.le
end
end Go.Proofs.YtenpbpgoglepfaaGreatDoor
