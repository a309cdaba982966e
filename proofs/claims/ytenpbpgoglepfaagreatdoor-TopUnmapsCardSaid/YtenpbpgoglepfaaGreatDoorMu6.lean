/- The evaluator is sound: frames, operands; what a sound instruction is. No condition. -/
import Derived.Test.YtenpbpgoglepfaaGreatDoorMu1
import Derived.IntWalk
import Derived.Deep.MidRow
import Derived.Lib.ConvBytes
import Derived.Laws.MakeOwn
import Derived.Laws.BytesString
import Derived.Deep.AppendSrc
import Derived.Deep.Upon
import Derived.OrdersIn
import Derived.LoopNIn
import Derived.LaidEql
import Derived.RangeFuncSeq
import Derived.RangeFuncLeaves
namespace Go.Proofs.YtenpbpgoglepfaaGreatDoor
open Go.RowKit
set_option linter.unusedVariables false

/-- How many variables the program has; from where on (a loop's start, or nowhere). -/
structure Env where
  ng : Nat
  start : Option Rho
  opq : Nat → Value
instance : Coe Env Nat := ⟨Env.ng⟩
/-- The program's variables lie first; what was known at the start is known. -/
structure Base (NG : Env) (r : Rho) : Prop where
  glob : ∀ g, g < NG.ng → r.has g ∧ r.blk g = g ∧ r.off g = 0
  from_ : ∀ r1, NG.start = some r1 → r1.Le r
  few : ∀ g, g < eqN → r.has g
  inj : ∀ g g', g < eqN → g' < eqN → eqL ≤ g → eqL ≤ g' → r.blk g = r.blk g' → r.off g = r.off g' → g = g'
  opq : r.opq = NG.opq
theorem Base.le {NG : Env} {r r' : Rho} (h : Base NG r) (k : r.Le r') : Base NG r' := ⟨fun g hg => by
  obtain ⟨h1, h2, h3⟩ := h.glob g hg
  obtain ⟨e0, e1, e2, _⟩ := k.same g h1
  exact ⟨e0, e1.trans h2, e2.trans h3⟩, fun r1 h1 => (h.from_ r1 h1).trans k, fun g hg => (k.same g (h.few g hg)).1, fun g g' hg hg' hl hl' e e2 => by
  rw [(k.same g (h.few g hg)).2.1, (k.same g' (h.few g' hg')).2.1] at e
  rw [(k.same g (h.few g hg)).2.2.1, (k.same g' (h.few g' hg')).2.2.1] at e2
  exact h.inj g g' hg hg' hl hl' e e2, k.opq.trans h.opq⟩
noncomputable def slotN (h l : H) : Nat := 16 * h.num + l.num
theorem slotN_inj {h l h' l' : H} (e : slotN h l = slotN h' l') : h = h' ∧ l = l' := by
  unfold slotN at e
  have a := num_lt l
  have b := num_lt l'
  exact ⟨num_inj (by omega), num_inj (by omega)⟩
/-- An activation's slots are as a frame says. -/
structure FrR (N : Nat) (r : Rho) (fr : Fr) (a : Act) : Prop where
  size : a.tmps.size = N
  get : ∀ h l v, a.tmps[slotN h l]? = some v → Rel r (F.get l (F.get h fr)) v
theorem FrR.le {N : Nat} {r r' : Rho} {fr : Fr} {a : Act} (h : FrR N r fr a) (k : r.Le r') : FrR N r' fr a := ⟨h.size, fun x y v e => (h.get x y v e).le k⟩
noncomputable def dB : Option Tmp → D → Bool
  | none, .no => true
  | some t, .to h l => t == slotN h l
  | _, _ => false
theorem put_get' (a : Act) (dst : Option Tmp) (v : Value) (t : Nat) : (a.put dst v).tmps[t]? = if dst = some t then (if t < a.tmps.size then some v else none) else a.tmps[t]? := by
  cases dst with
  | none => simp [Act.put]
  | some d =>
    simp only [Act.put, Array.getElem?_setIfInBounds, Option.some.injEq]
    by_cases h : d = t
    · subst h; simp
    · simp [h]
open Classical in
theorem D.get_put (h l h' l' : H) (v : AV) (fr : Fr) : F.get l' (F.get h' (D.put (.to h l) v fr)) = if h' = h ∧ l' = l then v else F.get l' (F.get h' fr) := by
  show F.get l' (F.get h' (F.mod h (F.mod l (fun _ => v)) fr)) = _
  by_cases e : h' = h
  · subst e
    rw [F.get_mod]
    by_cases e' : l' = l
    · subst e'; rw [F.get_mod]; simp
    · rw [F.get_mod_ne e']; simp [e']
  · rw [F.get_mod_ne e]; simp [e]
theorem put_dfr (a : Act) (dst : Option Tmp) (v : Value) : (a.put dst v).defers = a.defers := by cases dst <;> rfl
theorem FrR.put {N : Nat} {r : Rho} {fr : Fr} {a : Act} (h : FrR N r fr a) {dst : Option Tmp} {d : D} (hd : dB dst d = true) {av : AV} {v : Value} (hv : Rel r av v) : FrR N r (D.put d av fr) (a.put dst v) := by
  refine ⟨?_, fun x y u hu => ?_⟩
  · rw [← h.size]; cases dst <;> simp [Act.put]
  · rw [put_get'] at hu
    cases dst with
    | none =>
      cases d with
      | to _ _ => simp [dB] at hd
      | no => exact h.get x y u (by simpa using hu)
    | some t =>
      cases d with
      | no => simp [dB] at hd
      | to p q =>
        simp only [dB, beq_iff_eq] at hd
        rw [D.get_put]
        by_cases e : x = p ∧ y = q
        · obtain ⟨rfl, rfl⟩ := e
          rw [if_pos (by rw [hd])] at hu
          split at hu
          · cases hu; simpa using hv
          · cases hu
        · rw [if_neg e]
          rw [if_neg (fun e' => e (slotN_inj (by rw [← hd]; exact (Option.some.inj e').symm)))] at hu
          exact h.get x y u hu
/-- Constants. -/
def cB : Value → AV → Bool
  | .bool b, .b c => b == c
  | .int k n, .i k' m => decide (k = k') && decide (n = m)
  | .string s, .str l => s.data.toList.map (fun b => b.toNat) == l
  | .pointer none, .np => true
  | .slice none 0 0, .ns => true
  | .map none, .nm => true
  | .nilFunc, .nf => true
  | .nilIface, .ni => true
  | _, _ => false
def cLB : List Value → AV → Bool
  | [], .nil => true
  | v :: vs, .cons x l => cB v x && cLB vs l
  | _, _ => false
def cAB : Value → AV → Bool
  | .agg cs, .agg l => cLB cs.toList l
  | v, x => cB v x
theorem cB_rel {v : Value} {x : AV} (h : cB v x = true) (r : Rho) : Rel r x v := by
  unfold cB at h
  split at h
  · simp only [beq_iff_eq] at h; simp [Rel, h]
  · simp only [Bool.and_eq_true, decide_eq_true_eq] at h; simp [Rel, h.1, h.2]
  · rename_i s l; exact ⟨s, rfl, by simpa using h⟩
  all_goals first | rfl | cases h
theorem cLB_rel (r : Rho) : ∀ {vs : List Value} {x : AV}, cLB vs x = true → RelL r x vs
  | [], x, h => by cases x <;> simp_all [cLB, RelL]
  | v :: vs, x, h => by
    cases x <;> simp only [cLB, Bool.and_eq_true, reduceCtorEq] at h
    exact ⟨v, vs, rfl, cB_rel h.1 r, cLB_rel r h.2⟩
theorem cAB_rel {v : Value} {x : AV} (h : cAB v x = true) (r : Rho) : Rel r x v := by
  unfold cAB at h
  split at h
  · rename_i cs l; exact ⟨cs, rfl, cLB_rel r h⟩
  · exact cB_rel h r
/-- Operands. -/
noncomputable def xB (NG N : Nat) : Operand → X → Bool
  | .tmp t, .t h l => t == slotN h l && decide (t < N)
  | .const v, .k x => cAB v x
  | .global g, .k (.p g' 0) => g == g' && decide (g < NG)
  | .func f, .k (.f g .nil .nil) => f == g
  | _, _ => false
theorem xB_rel {NG : Env} {N : Nat} {o : Operand} {x : X} (h : xB NG N o x = true) {r : Rho} {fr : Fr} {a : Act} (hb : Base NG r) (hf : FrR N r fr a) : Rel r (X.ev x fr) (a.eval o) := by
  unfold xB at h
  split at h
  · rename_i t p q
    simp only [Bool.and_eq_true, beq_iff_eq, decide_eq_true_eq] at h
    show Rel r (F.get q (F.get p fr)) (a.tmps.getD t undef)
    have : t < a.tmps.size := by rw [hf.size]; exact h.2
    rw [Array.getD_eq_getD_getElem?, Array.getElem?_eq_getElem this]
    exact hf.get p q _ (by rw [← h.1]; exact Array.getElem?_eq_getElem this)
  · exact cAB_rel h r
  · rename_i g g'
    simp only [Bool.and_eq_true, beq_iff_eq, decide_eq_true_eq] at h
    obtain ⟨h1, h2, h3⟩ := hb.glob g h.2
    show Rel r (.p g' 0) (.pointer (some ⟨g, 0, none⟩))
    rw [← h.1]
    exact ⟨h1, by rw [h2, h3]⟩
  · rename_i f g
    simp only [beq_iff_eq] at h
    subst h
    exact ⟨#[], #[], rfl, rfl, rfl⟩
  · cases h

section
variable {P : Program} {NG : Env} {B0 N : Nat}
/-- What an operation does. -/
def OpDo (P : Program) (NG : Env) (B0 N : Nat) (o : Oper) (fr : Fr) (s : St) (fr' : Fr) (s' : St) : Prop :=
  ∀ (r : Rho) (w : World) (a : Act), Base NG r → Sim B0 r s w → FrR N r fr a → ∀ (Q : Exit → Act → World → Prop) (K : Act → World → Prop),
    (∀ a' w' r', Sim B0 r' s' w' → Stp r s w r' s' w' → FrR N r' fr' a' → a'.defers = a.defers → K a' w') → o.wp P a w K Q
/-- With what a step goes on; or it fails. -/
def Ct (f : K → R) (D : Fr → St → Prop) : Prop := (∀ k, f k = .bad) ∨ ∃ fr s, (∀ k, f k = k fr s) ∧ D fr s
/-- An instruction stands for an operation. -/
def Snd (P : Program) (NG : Env) (B0 N : Nat) (C : CallE → Prop) (o : Oper) (i : I) : Prop :=
  ∀ c, C c → ∀ fr s, Ct (evI i c fr s) (OpDo P NG B0 N o fr s)
theorem do_val {o : Oper} {d : D} (hd : dB o.dst d = true) {fr : Fr} {s s' : St} {av : AV}
    (h : ∀ (r : Rho) (w : World) (a : Act), Base NG r → Sim B0 r s w → FrR N r fr a → ∃ v w' r', (execOp a.eval o).run P w = .ok (.value v) w' ∧ Rel r' av v ∧ Sim B0 r' s' w' ∧ Stp r s w r' s' w') :
    OpDo P NG B0 N o fr s (D.put d av fr) s' := fun r w a hb hs hf Q K hK => by
  obtain ⟨v, w', r', e, hv, hs', hst⟩ := h r w a hb hs hf
  unfold Oper.wp
  rw [e]
  exact hK _ _ r' hs' hst ((hf.le hst.le).put hd hv) (put_dfr _ _ _)
/-- .. that changes nothing. -/
theorem do_pure {o : Oper} {d : D} (hd : dB o.dst d = true) {fr : Fr} {s : St} {av : AV}
    (h : ∀ (r : Rho) (w : World) (a : Act), Base NG r → Sim B0 r s w → FrR N r fr a → ∃ v, (execOp a.eval o).run P w = .ok (.value v) w ∧ Rel r av v) :
    OpDo P NG B0 N o fr s (D.put d av fr) s := do_val hd fun r w a hb hs hf => by
  obtain ⟨v, e, hv⟩ := h r w a hb hs hf
  exact ⟨v, w, r, e, hv, hs, .refl r s w⟩
/-- .. that answers nothing. -/
theorem do_skip {o : Oper} (hd : o.dst = none) {fr : Fr} {s s' : St}
    (h : ∀ (r : Rho) (w : World) (a : Act), Base NG r → Sim B0 r s w → FrR N r fr a → ∃ w' r', (execOp a.eval o).run P w = .ok .skip w' ∧ Sim B0 r' s' w' ∧ Stp r s w r' s' w') :
    OpDo P NG B0 N o fr s fr s' := fun r w a hb hs hf Q K hK => by
  obtain ⟨w', r', e, hs', hst⟩ := h r w a hb hs hf
  unfold Oper.wp
  rw [e]
  show K (a.put o.dst undef) w'
  rw [hd]
  exact hK _ _ r' hs' hst (hf.le hst.le) rfl
end

section
variable {D : Fr → St → Prop}
theorem Ct.fin {fr : Fr} {s : St} (h : D fr s) : Ct (fun k => k fr s) D := .inr ⟨fr, s, fun _ => rfl, h⟩
theorem Ct.bad : Ct (fun _ => .bad) D := .inl fun _ => rfl
theorem Ct.mono {D' : Fr → St → Prop} {f : K → R} (h : Ct f D) (hd : ∀ fr s, D fr s → D' fr s) : Ct f D' := h.imp id fun ⟨fr, s, h1, h2⟩ => ⟨fr, s, h1, hd _ _ h2⟩
theorem Ct.ite {b : Bool} {f g : K → R} (h : b = true → Ct f D) (h' : b = false → Ct g D) : Ct (fun k => ifB b (f k) (g k)) D := by
  cases b
  · exact h' rfl
  · exact h rfl
theorem Ct.must {b : Bool} {f : K → R} (h : b = true → Ct f D) : Ct (fun k => ifB b (f k) .bad) D := Ct.ite h fun _ => .bad
theorem Ct.strictN {n : Nat} {f : Nat → K → R} (h : Ct (f n) D) : Ct (fun k => Go.Proofs.YtenpbpgoglepfaaGreatDoor.strictN n fun n => f n k) D := by cases n <;> exact h
theorem Ct.strictI {n : Int} {f : Int → K → R} (h : Ct (f n) D) : Ct (fun k => Go.Proofs.YtenpbpgoglepfaaGreatDoor.strictI n fun n => f n k) D := by
  rcases h with h | ⟨fr, s, h, hd⟩
  · exact .inl fun k => (strictI_eq n _).trans (h k)
  · exact .inr ⟨fr, s, fun k => (strictI_eq n _).trans (h k), hd⟩
theorem Ct.natI {n : Int} {f : Nat → K → R} (h : ∀ m, n = .ofNat m → Ct (f m) D) : Ct (fun k => Go.Proofs.YtenpbpgoglepfaaGreatDoor.natI n fun m => f m k) D := by
  cases n with
  | ofNat m => exact h m rfl
  | negSucc _ => exact .bad
theorem Ct.withSt {s : St} {f : Hp → Nat → K → R} (h : Ct (f s.h s.n) D) : Ct (fun k => Go.Proofs.YtenpbpgoglepfaaGreatDoor.withSt s fun h n => f h n k) D := by cases s; exact h
theorem Ct.onI {v : AV} {f : IntKind → Int → K → R} (h : ∀ t n, v = .i t n → Ct (f t n) D) : Ct (fun k => AV.onI v .bad fun t n => f t n k) D := by cases v <;> first | exact .bad | exact h _ _ rfl
theorem Ct.onB {v : AV} {f : Bool → K → R} (h : ∀ t, v = .b t → Ct (f t) D) : Ct (fun k => AV.onB v .bad fun t => f t k) D := by cases v <;> first | exact .bad | exact h _ rfl
theorem Ct.onP {v : AV} {f : Nat → Nat → K → R} (h : ∀ b o, v = .p b o → Ct (f b o) D) : Ct (fun k => AV.onP v .bad fun b o => f b o k) D := by cases v <;> first | exact .bad | exact h _ _ rfl
theorem Ct.onS {v : AV} {f : Nat → Nat → Nat → Nat → Nat → Bool → K → R} (h : ∀ b o z l c e, v = .s b o z l c e → Ct (f b o z l c e) D) : Ct (fun k => AV.onS v .bad fun b o z l c e => f b o z l c e k) D := by cases v <;> first | exact .bad | exact h _ _ _ _ _ _ rfl
theorem Ct.onStr {v : AV} {f : List Nat → K → R} (h : ∀ l, v = .str l → Ct (f l) D) : Ct (fun k => AV.onStr v .bad fun l => f l k) D := by cases v <;> first | exact .bad | exact h _ rfl
theorem Ct.onM {v : AV} {f : Nat → K → R} (h : ∀ b, v = .m b → Ct (f b) D) : Ct (fun k => AV.onM v .bad fun b => f b k) D := by cases v <;> first | exact .bad | exact h _ rfl
theorem Ct.onF {v : AV} {f : Nat → AV → AV → K → R} (h : ∀ g a c, v = .f g a c → Ct (f g a c) D) : Ct (fun k => AV.onF v .bad fun g a c => f g a c k) D := by cases v <;> first | exact .bad | exact h _ _ _ rfl
theorem Ct.onIfc {v : AV} {f : Nat → AV → K → R} (h : ∀ t x, v = .ifc t x → Ct (f t x) D) : Ct (fun k => AV.onIfc v .bad fun t x => f t x k) D := by cases v <;> first | exact .bad | exact h _ _ rfl
theorem Ct.onG {v : AV} {f : AV → K → R} (h : ∀ l, v = .agg l → Ct (f l) D) : Ct (fun k => AV.onG v .bad fun l => f l k) D := by cases v <;> first | exact .bad | exact h _ rfl
theorem Ct.onT {v : AV} {f : AV → K → R} (h : ∀ l, v = .tup l → Ct (f l) D) : Ct (fun k => AV.onT v .bad fun l => f l k) D := by cases v <;> first | exact .bad | exact h _ rfl
theorem Ct.onY {v : AV} {f : Nat → K → R} (h : ∀ b, v = .y b → Ct (f b) D) : Ct (fun k => AV.onY v .bad fun b => f b k) D := by cases v <;> first | exact .bad | exact h _ rfl
theorem Ct.isNs {v : AV} {f g : K → R} (h : v ≠ .ns → Ct f D) (h' : v = .ns → Ct g D) : Ct (fun k => AV.isNs v (f k) (g k)) D := by
  cases v <;> first | exact h (fun e => by cases e) | exact h' rfl
theorem Ct.isNm {v : AV} {f g : K → R} (h : v ≠ .nm → Ct f D) (h' : v = .nm → Ct g D) : Ct (fun k => AV.isNm v (f k) (g k)) D := by
  cases v <;> first | exact h (fun e => by cases e) | exact h' rfl
theorem Ct.isU {v : AV} {f : K → R} (h : v ≠ .u → Ct f D) : Ct (fun k => AV.isU v (f k) .bad) D := by
  cases v <;> first | exact h (fun e => by cases e) | exact .bad
theorem Ct.onR {g : GB} {f : Cs → K → R} (h : ∀ c, g = .ro c ∨ g = .rw c → Ct (f c) D) : Ct (fun k => GB.onR g .bad fun c => f c k) D := by
  cases g with
  | no => exact .bad
  | mp _ => exact .bad
  | lp _ => exact .bad
  | ro c => exact h c (.inl rfl)
  | rw c => exact h c (.inr rfl)
theorem Ct.onW {g : GB} {f : Cs → K → R} (h : ∀ c, g = .rw c → Ct (f c) D) : Ct (fun k => GB.onW g .bad fun c => f c k) D := by
  cases g <;> first | exact .bad | exact h _ rfl
theorem Ct.onMp {g : GB} {f : AV → K → R} (h : ∀ c, g = .mp c → Ct (f c) D) : Ct (fun k => GB.onMp g .bad fun c => f c k) D := by
  cases g <;> first | exact .bad | exact h _ rfl
end
end Go.Proofs.YtenpbpgoglepfaaGreatDoor
namespace Go.Proofs.YtenpbpgoglepfaaGreatDoor
open Go.RowKit
set_option linter.unusedVariables false

theorem run_v {P : Program} {w w' : World} {s : Sem Value} {v : Value} (h : s.run P w = .ok v w') : (do pure (Next.value (← s)) : Sem Next).run P w = .ok (.value v) w' := by
  rw [Sem.run_bind, h]; rfl
theorem run_u {P : Program} {w w' : World} {s : Sem Unit} (h : s.run P w = .ok () w') : (do s; pure Next.skip : Sem Next).run P w = .ok .skip w' := by
  rw [Sem.run_bind, h]; rfl
theorem run_und {P : Program} {t : TypeId} {d : TypeDesc} (h : P.underlying t = some d) (w : World) : (underlying t).run P w = .ok d w := by
  simp only [underlying, Sem.run_bind, run_program, Result.andThen_ok, h, Sem.run_pure]
theorem run_info {P : Program} {t : TypeId} {d : TypeInfo} (h : P.info? t = some d) (w : World) : (typeInfo t).run P w = .ok d w := by
  simp only [typeInfo, Sem.run_bind, run_program, Result.andThen_ok, h, Sem.run_pure]
theorem run_size {P : Program} {t n : Nat} (h : (P.info? t).map (·.size) = some n) (w : World) : (sizeOf t).run P w = .ok n w := by
  cases hq : P.info? t with
  | none => simp [hq] at h
  | some i =>
    simp only [sizeOf, Sem.run_bind, run_info hq, Result.andThen_ok, Sem.run_pure]
    simp [hq] at h
    rw [h]

section
variable {ρ : Operand → Value} {o : Oper}
theorem ex_pick {c a b : Operand} (e : o.op = .pick c a b) : execOp ρ o = (do pure (.value (if ← asBool (ρ c) then ρ a else ρ b))) := by unfold execOp; rw [e]
theorem ex_unOp {q : UnOp} {t : TypeId} {x : Operand} (e : o.op = .unOp q t x) : execOp ρ o = (do pure (.value (← Op.unary q (ρ x)))) := by unfold execOp; rw [e]
theorem ex_binOp {q : BinOp} {t t' : TypeId} {x y : Operand} (e : o.op = .binOp q t x y t') : execOp ρ o = (do pure (.value (← (do eqGuard q t x y (ρ x) (ρ y); binOp q t (ρ x) (ρ y) : Sem Value)))) := by unfold execOp; rw [e]
theorem ex_convert {t t' : TypeId} {x : Operand} (e : o.op = .convert t t' x) : execOp ρ o = (do pure (.value (← convert t t' (ρ x)))) := by unfold execOp; rw [e]
theorem ex_makeInterface {t : TypeId} {x : Operand} (e : o.op = .makeInterface t x) : execOp ρ o = (do pure (.value (← Instr.makeInterface t (ρ x)))) := by unfold execOp; rw [e]
theorem ex_makeFunc {f : Go.Fn} {xs ys : Array Operand} (e : o.op = .makeFunc f xs ys) : execOp ρ o = (do pure (.value (← Instr.makeFunc f (xs.map ρ) (ys.map ρ)))) := by unfold execOp; rw [e]
theorem ex_extract {x : Operand} {n : Nat} (e : o.op = .extract x n) : execOp ρ o = (do pure (.value (← Instr.extract (ρ x) n))) := by unfold execOp; rw [e]
theorem ex_field {t : TypeId} {x : Operand} {n : Nat} (e : o.op = .field t x n) : execOp ρ o = (do pure (.value (← Instr.field t (ρ x) n))) := by unfold execOp; rw [e]
theorem ex_fieldAddr {t : TypeId} {x : Operand} {n : Nat} (e : o.op = .fieldAddr t x n) : execOp ρ o = (do pure (.value (← Instr.fieldAt t (ρ x) n))) := by unfold execOp; rw [e]
theorem ex_index {t : TypeId} {x y : Operand} (e : o.op = .index t x y) : execOp ρ o = (do pure (.value (← Instr.index t (ρ x) (ρ y)))) := by unfold execOp; rw [e]
theorem ex_indexAddr {t : TypeId} {x y : Operand} (e : o.op = .indexAddr t x y) : execOp ρ o = (do pure (.value (← Instr.indexAt t (ρ x) (ρ y)))) := by unfold execOp; rw [e]
theorem ex_slice {t : TypeId} {x : Operand} {a b c : Option Operand} (e : o.op = .slice t x a b c) : execOp ρ o = (do pure (.value (← Instr.sliceAt t (ρ x) (a.map ρ) (b.map ρ) (c.map ρ)))) := by unfold execOp; rw [e]
theorem ex_alloc {t : TypeId} (e : o.op = .alloc t) : execOp ρ o = (do pure (.value (← Instr.alloc t true (.tuple #[])))) := by unfold execOp; rw [e]
theorem ex_box {t : TypeId} {x : Operand} (e : o.op = .box t x) : execOp ρ o = (do pure (.value (← Instr.box t (ρ x)))) := by unfold execOp; rw [e]
theorem ex_build {t : TypeId} {ps : Array (Nat × Operand)} (e : o.op = .build t ps) : execOp ρ o = (do pure (.value (← Instr.build t (ps.map fun (i, x) => (i, ρ x))))) := by unfold execOp; rw [e]
theorem ex_buildSlice {t n : Nat} {ps : Array (Nat × Operand)} (e : o.op = .buildSlice t n ps) : execOp ρ o = (do pure (.value (← Instr.buildSlice t n (ps.map fun (i, x) => (i, ρ x))))) := by unfold execOp; rw [e]
theorem ex_load {t : TypeId} {x : Operand} (e : o.op = .load t x) : execOp ρ o = (do pure (.value (← Instr.loadAt t (ρ x)))) := by unfold execOp; rw [e]
theorem ex_store {t : TypeId} {x y : Operand} (e : o.op = .store t x y) : execOp ρ o = (do Instr.storeAt t (ρ x) (ρ y); pure .skip) := by unfold execOp; rw [e]
theorem ex_makeMap {t : TypeId} {x : Option Operand} (e : o.op = .makeMap t x) : execOp ρ o = (do pure (.value (← Instr.makeMap t (x.map ρ)))) := by unfold execOp; rw [e]
theorem ex_makeSlice {t : TypeId} {x y : Operand} (e : o.op = .makeSlice t x y) : execOp ρ o = (do pure (.value (← Instr.makeSlice t (ρ x) (ρ y)))) := by unfold execOp; rw [e]
theorem ex_lookup {t : TypeId} {x y : Operand} {b : Bool} (e : o.op = .lookup t x y b) : execOp ρ o = (do pure (.value (← Instr.lookup t (ρ x) (ρ y) b))) := by unfold execOp; rw [e]
theorem ex_mapUpdate {t : TypeId} {x y z : Operand} (e : o.op = .mapUpdate t x y z) : execOp ρ o = (do Instr.mapUpdate t (ρ x) (ρ y) (ρ z); pure .skip) := by unfold execOp; rw [e]
theorem ex_insert {t : TypeId} {x y z : Operand} (e : o.op = .insert t x y z) : execOp ρ o = (do Instr.mapUpdate t (ρ x) (ρ y) (ρ z); pure .skip) := by unfold execOp; rw [e]
theorem ex_call {q : Call} (e : o.op = .call q) : execOp ρ o = (do let d ← resolve ρ q o.type; invoke d.target d.args) := by unfold execOp; rw [e]
end
section
variable {P : Program} {NG : Env} {B0 N : Nat} {C : CallE → Prop} {o : Oper}
noncomputable def okMov (NG N : Nat) (o : Oper) (x : X) (d : D) : Bool := dB o.dst d && (match o.op with | .move y => xB NG N y x | .assign y => xB NG N y x | _ => false)
theorem snd_mov {x : X} {d : D} (h : okMov NG N o x d = true) : Snd P NG B0 N C o (.mov x d) := fun c _ fr s => by
  simp only [okMov, Bool.and_eq_true] at h
  obtain ⟨hd, h⟩ := h
  refine Ct.fin (do_pure hd fun r w a hb hs hf => ?_)
  split at h
  · rename_i y e; exact ⟨a.eval y, by unfold execOp; rw [e]; rfl, xB_rel h hb hf⟩
  · rename_i y e; exact ⟨a.eval y, by unfold execOp; rw [e]; rfl, xB_rel h hb hf⟩
  · cases h
noncomputable def okPick (NG N : Nat) (o : Oper) (x y z : X) (d : D) : Bool := dB o.dst d && (match o.op with | .pick c a b => xB NG N c x && xB NG N a y && xB NG N b z | _ => false)
theorem snd_pick {x y z : X} {d : D} (h : okPick NG N o x y z d = true) : Snd P NG B0 N C o (.pick x y z d) := fun c _ fr s => by
  simp only [okPick, Bool.and_eq_true] at h
  obtain ⟨hd, h⟩ := h
  show Ct (hPick x y z d c fr s) _
  unfold hPick
  refine Ct.onB fun t e => Ct.fin (do_pure hd fun r w a hb hs hf => ?_)
  split at h
  · rename_i c' a' b' e'
    simp only [Bool.and_eq_true] at h
    have hc := xB_rel h.1.1 hb hf
    rw [e] at hc
    simp only [Rel] at hc
    refine ⟨if t then a.eval a' else a.eval b', ?_, ?_⟩
    · rw [ex_pick e', hc]
      cases t <;> rfl
    · cases t
      · exact xB_rel h.2 hb hf
      · exact xB_rel h.1.2 hb hf
  · cases h
theorem Ct.putB {b : Bool} {d : D} {fr : Fr} {s : St} {E : Fr → St → Prop} (h : E (D.put d (.b b) fr) s) : Ct (fun k => Go.Proofs.YtenpbpgoglepfaaGreatDoor.putB b d fr s k) E := by
  cases b <;> exact Ct.fin h
noncomputable def okNot (NG N : Nat) (o : Oper) (x : X) (d : D) : Bool := dB o.dst d && (match o.op with | .unOp .not _ y => xB NG N y x | _ => false)
theorem snd_not {x : X} {d : D} (h : okNot NG N o x d = true) : Snd P NG B0 N C o (.not x d) := fun c _ fr s => by
  simp only [okNot, Bool.and_eq_true] at h
  obtain ⟨hd, h⟩ := h
  show Ct (hNot x d c fr s) _
  unfold hNot
  refine Ct.onB fun t e => Ct.putB (do_pure hd fun r w a hb hs hf => ?_)
  split at h
  · rename_i u y e'
    have hc := xB_rel h hb hf
    rw [e] at hc
    simp only [Rel] at hc
    exact ⟨.bool (!t), by rw [ex_unOp e', hc]; rfl, by cases t <;> rfl⟩
  · cases h
theorem kN_eq {k k' : IntKind} (h : Nat.beq (kN k) (kN k') = true) : k = k' := by cases k <;> cases k' <;> first | rfl | cases h
def cmOp : Cm → BinOp
  | .lss => .lss | .leq => .leq | .gtr => .gtr | .geq => .geq | .eql => .eql | .neq => .neq
noncomputable def okCmp (NG N : Nat) (o : Oper) (g : Cm) (x y : X) (d : D) : Bool := dB o.dst d && (match o.op with | .binOp q _ p p' _ => decide (q = cmOp g) && xB NG N p x && xB NG N p' y | _ => false)
theorem run_cmp (w : World) (g : Cm) (t : TypeId) (p p' : Operand) (k : IntKind) (a b : Int) :
    (do eqGuard (cmOp g) t p p' (.int k a) (.int k b); binOp (cmOp g) t (.int k a) (.int k b) : Sem Value).run P w = .ok (.bool (cmE g a b)) w := by
  have e : (eqGuard (cmOp g) t p p' (.int k a) (.int k b)).run P w = .ok () w := by cases g <;> rfl
  rw [Sem.run_bind, e]
  show (binOp (cmOp g) t (.int k a) (.int k b)).run P w = _
  cases g <;> simp only [binOp, cmOp, ne_eq, not_true_eq_false, if_false, Op.intCmp, Sem.run_pure, cmE, ltI_eq, eqI_eq, Result.ok.injEq, Value.bool.injEq, and_true]
  · by_cases h : b < a
    · simp [h, ifB]
    · simp [h, ifB]; omega
  · by_cases h : a < b
    · simp [h, ifB]
    · simp [h, ifB]; omega
  · by_cases h : a = b <;> simp [h]
  · by_cases h : a = b <;> simp [h, ifB]
theorem snd_cmp {g : Cm} {x y : X} {d : D} (h : okCmp NG N o g x y d = true) : Snd P NG B0 N C o (.cmp g x y d) := fun c _ fr s => by
  simp only [okCmp, Bool.and_eq_true] at h
  obtain ⟨hd, h⟩ := h
  show Ct (hCmp g x y d c fr s) _
  unfold hCmp
  refine Ct.onI fun t a e => Ct.onI fun t' b e2 => Ct.must fun hk => Ct.putB (do_pure hd fun r w a' hb hs hf => ?_)
  split at h
  · rename_i q u p p' u' e'
    simp only [Bool.and_eq_true, decide_eq_true_eq] at h
    have h1 := xB_rel h.1.2 hb hf
    have h2 := xB_rel h.2 hb hf
    rw [e] at h1
    rw [e2] at h2
    simp only [Rel] at h1 h2
    obtain rfl := kN_eq hk
    refine ⟨.bool (cmE g a b), ?_, rfl⟩
    rw [ex_binOp e', h1, h2, h.1.1]
    exact run_v (run_cmp w g u p p' t a b)
  · cases h
noncomputable def okCnv (P : Program) (NG N : Nat) (o : Oper) (k : IntKind) (x : X) (d : D) : Bool := dB o.dst d && (match o.op with | .convert q t y => xB NG N y x && (match P.underlying q, P.underlying t with | some _, some (.int k') => decide (k = k') | _, _ => false) | _ => false)
theorem inS_spec {n : Int} {b : Nat} (h : inS n b = true) : -(b : Int) ≤ n ∧ n < b := by
  rcases n with m | m <;> simp only [inS, blt_eq, decide_eq_true_eq] at h <;> simp only [Int.ofNat_eq_natCast, Int.negSucc_eq] <;> omega
theorem inU_spec {n : Int} {b : Nat} (h : inU n b = true) : 0 ≤ n ∧ n < b := by
  rcases n with m | m
  · simp only [inU, blt_eq, decide_eq_true_eq] at h
    simp only [Int.ofNat_eq_natCast]
    omega
  · cases h
theorem wrap_in (k : IntKind) (n : Int) (h : (IntKind.rec (motive := fun _ => Bool) (inS n 128) (inS n 32768) (inS n 2147483648) (inS n 9223372036854775808) (inU n 256) (inU n 65536) (inU n 4294967296) (inU n 18446744073709551616) k : Bool) = true) : k.wrap n = n := by
  cases k
  · have := inS_spec (n := n) (b := 128) h; exact IntWalk.i8_in n (by omega)
  · have := inS_spec (n := n) (b := 32768) h; exact IntWalk.i16_in n (by omega)
  · have := inS_spec (n := n) (b := 2147483648) h; exact IntWalk.i32_in n (by omega)
  · have := inS_spec (n := n) (b := 9223372036854775808) h; exact IntWalk.i64_in n (by omega)
  · have := inU_spec (n := n) (b := 256) h; exact IntWalk.u8_in n (by omega)
  · have := inU_spec (n := n) (b := 65536) h; exact IntWalk.u16_in n (by omega)
  · have := inU_spec (n := n) (b := 4294967296) h; exact IntWalk.u32_in n (by omega)
  · have := inU_spec (n := n) (b := 18446744073709551616) h; exact IntWalk.u64_in n (by omega)
theorem wrapE_eq (k : IntKind) (n : Int) : wrapE k n = k.wrap n := by
  unfold wrapE
  generalize hb : (IntKind.rec (motive := fun _ => Bool) (inS n 128) (inS n 32768) (inS n 2147483648) (inS n 9223372036854775808) (inU n 256) (inU n 65536) (inU n 4294967296) (inU n 18446744073709551616) k : Bool) = b
  cases b
  · rfl
  · exact (wrap_in k n hb).symm
theorem snd_cnv {k : IntKind} {x : X} {d : D} (h : okCnv P NG N o k x d = true) : Snd P NG B0 N C o (.cnv k x d) := fun c _ fr s => by
  simp only [okCnv, Bool.and_eq_true] at h
  obtain ⟨hd, h⟩ := h
  show Ct (hCnv k x d c fr s) _
  unfold hCnv
  refine Ct.onI fun t n e => Ct.strictI (Ct.fin (do_pure hd fun r w a hb hs hf => ?_))
  split at h
  · rename_i q u y e'
    simp only [Bool.and_eq_true] at h
    have h1 := xB_rel h.1 hb hf
    rw [e] at h1
    simp only [Rel] at h1
    obtain ⟨_, h⟩ := h
    split at h
    · rename_i du k' eq1 eq2
      simp only [decide_eq_true_eq] at h
      subst h
      refine ⟨.int k (wrapE k n), ?_, rfl⟩
      rw [ex_convert e', h1, wrapE_eq]
      refine run_v ?_
      simp only [convert, Sem.run_bind, run_und eq1, run_und eq2, Result.andThen_ok]
      rfl
    · cases h
  · cases h
end
end Go.Proofs.YtenpbpgoglepfaaGreatDoor
namespace Go.Proofs.YtenpbpgoglepfaaGreatDoor
open Go.RowKit
set_option linter.unusedVariables false

section
variable {P : Program} {NG : Env} {B0 N : Nat} {C : CallE → Prop} {o : Oper} {E : Fr → St → Prop}
def arOp : Ar → BinOp
  | .add => .add | .sub => .sub | .mul => .mul | .quo => .quo | .rem => .rem | .land => .and | .lor => .or | .shl => .shl | .shr => .shr
theorem Ct.natB {t : IntKind} {a : Int} {f : Nat → K → R} (h : ∀ m, inR t a = true → a = .ofNat m → Ct (f m) E) : Ct (fun k => Go.Proofs.YtenpbpgoglepfaaGreatDoor.natB t a fun m => f m k) E := by
  show Ct (fun k => ifB (inR t a) (Go.Proofs.YtenpbpgoglepfaaGreatDoor.natI a fun m => f m k) .bad) E
  exact Ct.must fun hr => Ct.natI fun m hm => h m hr hm
theorem inR_lt {t : IntKind} {m : Nat} (h : inR t (.ofNat m) = true) : m < 2 ^ (if t.signed then t.bits - 1 else t.bits) := by
  cases t <;> simpa [inR, inS, inU, blt_eq, IntKind.signed, IntKind.bits] using h
theorem inR_of {t : IntKind} {m : Nat} (h : m < 2 ^ (if t.signed then t.bits - 1 else t.bits)) : inR t (.ofNat m) = true := by
  cases t <;> simpa [inR, inS, inU, blt_eq, IntKind.signed, IntKind.bits] using h
theorem bits_mod {t : IntKind} {m : Nat} (h : inR t (.ofNat m) = true) : (BitVec.ofInt t.bits (.ofNat m)).toNat = m := by
  have := inR_lt h
  have h2 : m < 2 ^ t.bits := Nat.lt_of_lt_of_le this (Nat.pow_le_pow_right (by omega) (by split <;> omega))
  rw [Int.ofNat_eq_natCast, BitVec.ofInt_natCast, BitVec.toNat_ofNat, Nat.mod_eq_of_lt h2]
theorem bitsN_eq (t : IntKind) : bitsN t = t.bits := by cases t <;> rfl
/-- What an operation on numbers answers. -/
def arV (P : Program) (g : Ar) (t t' : IntKind) (a b n : Int) : Prop := ∀ (u : TypeId) (w : World), (binOp (arOp g) u (.int t a) (.int t' b)).run P w = .ok (.int t n) w
theorem ct_ar {g : Ar} {t t' : IntKind} {a b : Int} {f : Int → K → R} (hk : okK g t t' = true) (h : ∀ n, arV P g t t' a b n → Ct (f n) E) : Ct (fun k => arE g t a b fun n => f n k) E := by
  cases g
  case add => exact Ct.strictI (h _ fun u w => by obtain rfl := kN_eq hk; simp [binOp, arOp, Op.intArith, wrapE_eq, addI_eq])
  case sub => exact Ct.strictI (h _ fun u w => by obtain rfl := kN_eq hk; simp [binOp, arOp, Op.intArith, wrapE_eq, subI_eq])
  case mul => exact Ct.strictI (h _ fun u w => by obtain rfl := kN_eq hk; simp only [binOp, arOp, ne_eq, not_true_eq_false, if_false, Op.intArith, Sem.run_pure, wrapE_eq]; rfl)
  case quo =>
    refine Ct.ite (b := eqI b 0) (fun _ => Ct.bad) fun hz => Ct.strictI (h _ fun u w => ?_)
    obtain rfl := kN_eq hk
    rw [eqI_eq, decide_eq_false_iff_not] at hz
    simp [binOp, arOp, Op.intDiv, wrapE_eq, hz]
  case rem =>
    refine Ct.ite (b := eqI b 0) (fun _ => Ct.bad) fun hz => Ct.strictI (h _ fun u w => ?_)
    obtain rfl := kN_eq hk
    rw [eqI_eq, decide_eq_false_iff_not] at hz
    simp [binOp, arOp, Op.intDiv, hz]
  case land =>
    refine Ct.natB (t := t) (a := a) fun m h1 e1 => Ct.natB (t := t) (a := b) fun n h2 e2 => Ct.strictI (h _ fun u w => ?_)
    subst e1 e2
    obtain rfl := kN_eq hk
    have hr : t.wrap (Int.ofNat (Nat.land m n)) = Int.ofNat (Nat.land m n) := wrap_in t _ (inR_of (Nat.lt_of_le_of_lt (Nat.and_le_left (n := m) (m := n)) (inR_lt h1)))
    simp only [binOp, arOp, ne_eq, not_true_eq_false, if_false, Op.intBits, Sem.run_pure, BitVec.toNat_and, bits_mod h1, bits_mod h2]
    exact congrArg (fun z => Result.ok (Value.int t z) w) hr
  case lor =>
    refine Ct.natB (t := t) (a := a) fun m h1 e1 => Ct.natB (t := t) (a := b) fun n h2 e2 => Ct.strictI (h _ fun u w => ?_)
    subst e1 e2
    obtain rfl := kN_eq hk
    have hr : t.wrap (Int.ofNat (Nat.lor m n)) = Int.ofNat (Nat.lor m n) := wrap_in t _ (inR_of (Nat.or_lt_two_pow (inR_lt h1) (inR_lt h2)))
    simp only [binOp, arOp, ne_eq, not_true_eq_false, if_false, Op.intBits, Sem.run_pure, BitVec.toNat_or, bits_mod h1, bits_mod h2]
    exact congrArg (fun z => Result.ok (Value.int t z) w) hr
  case shl =>
    refine Ct.natI (n := a) fun m e1 => Ct.natI (n := b) fun n e2 => Ct.must (b := Nat.ble n (bitsN t)) fun hb => Ct.strictI (h _ fun u w => ?_)
    subst e1 e2
    have hb' := Nat.le_of_ble_eq_true hb
    rw [bitsN_eq] at hb'
    simp only [binOp, arOp, Op.shift, Int.ofNat_eq_natCast, Int.toNat_natCast, Nat.min_eq_left hb', wrapE_eq]
    rw [if_neg (by omega)]
    have : ((Nat.mul m (Nat.pow 2 n) : Nat) : Int) = (m : Int) * 2 ^ n := by
      show ((m * 2 ^ n : Nat) : Int) = _
      rw [Int.natCast_mul, Int.natCast_pow]; rfl
    rw [this]; rfl
  case shr =>
    refine Ct.natI (n := a) fun m e1 => Ct.natI (n := b) fun n e2 => Ct.must (b := Nat.ble n (bitsN t)) fun hb => Ct.strictI (h _ fun u w => ?_)
    subst e1 e2
    have hb' := Nat.le_of_ble_eq_true hb
    rw [bitsN_eq] at hb'
    simp only [binOp, arOp, Op.shift, Int.ofNat_eq_natCast, Int.toNat_natCast, Nat.min_eq_left hb']
    rw [if_neg (by omega)]
    have : ((Nat.div m (Nat.pow 2 n) : Nat) : Int) = (m : Int).fdiv (2 ^ n) := by
      show ((m / 2 ^ n : Nat) : Int) = _
      rw [Int.fdiv_eq_ediv_of_nonneg _ (by exact_mod_cast Nat.zero_le (2 ^ n)), Int.natCast_ediv, Int.natCast_pow]; rfl
    rw [this]; rfl
noncomputable def okAr (NG N : Nat) (o : Oper) (g : Ar) (x y : X) (d : D) : Bool := dB o.dst d && (match o.op with | .binOp q _ p p' _ => decide (q = arOp g) && xB NG N p x && xB NG N p' y | .unOp .neg _ p => (match g, x with | .sub, .k (.i _ (.ofNat 0)) => xB NG N p y | _, _ => false) | _ => false)
theorem snd_ar {g : Ar} {x y : X} {d : D} (h : okAr NG N o g x y d = true) : Snd P NG B0 N C o (.ar g x y d) := fun c _ fr s => by
  simp only [okAr, Bool.and_eq_true] at h
  obtain ⟨hd, h⟩ := h
  show Ct (hAr g x y d c fr s) _
  unfold hAr
  refine Ct.onI fun t a e => Ct.onI fun t' b e2 => Ct.must fun hk => ct_ar (P := P) hk fun n hn => Ct.fin (do_pure hd fun r w a' hb hs hf => ?_)
  split at h
  · rename_i q u p p' u' e'
    simp only [Bool.and_eq_true, decide_eq_true_eq] at h
    have h1 := xB_rel h.1.2 hb hf
    have h2 := xB_rel h.2 hb hf
    rw [e] at h1
    rw [e2] at h2
    simp only [Rel] at h1 h2
    refine ⟨.int t n, ?_, rfl⟩
    rw [ex_binOp e', h1, h2, h.1.1]
    refine run_v ?_
    have : (eqGuard (arOp g) u p p' (.int t a) (.int t' b)).run P w = .ok () w := by cases g <;> rfl
    rw [Sem.run_bind, this]
    exact hn u w
  · rename_i u p e'
    split at h
    · rename_i kk
      have h2 := xB_rel h hb hf
      rw [e2] at h2
      simp only [Rel] at h2
      have e3 : AV.i kk (.ofNat 0) = .i t a := e
      cases e3
      obtain rfl := kN_eq hk
      refine ⟨.int _ n, ?_, rfl⟩
      rw [ex_unOp e', h2]
      refine run_v ?_
      have := hn u w
      simp only [binOp, arOp, ne_eq, not_true_eq_false, if_false] at this
      exact this
    · cases h
  · cases h
noncomputable def okNlc (NG N : Nat) (o : Oper) (x : X) (d : D) : Bool := dB o.dst d && (match o.op with | .nilCheck p => xB NG N p x | _ => false)
theorem snd_nlc {x : X} {d : D} (h : okNlc NG N o x d = true) : Snd P NG B0 N C o (.nlc x d) := fun c _ fr s => by
  simp only [okNlc, Bool.and_eq_true] at h
  obtain ⟨hd, h⟩ := h
  show Ct (hNlc x d c fr s) _
  unfold hNlc
  refine Ct.onP fun b q e => Ct.fin (do_pure hd fun r w a hb hs hf => ?_)
  split at h
  · rename_i p e'
    have h1 := xB_rel h hb hf
    rw [e] at h1
    refine ⟨a.eval p, ?_, h1⟩
    simp only [Rel] at h1
    unfold execOp
    rw [e']
    simp only [h1.2]
    rfl
  · cases h
/-- An instruction that always fails stands for whatever. -/
theorem snd_bad {d : D} : Snd P NG B0 N C o (.nlc (.k .np) d) := fun c _ fr s => .inl fun _ => rfl
noncomputable def okFld (P : Program) (NG N : Nat) (o : Oper) (z : Nat) (x : X) (d : D) : Bool := dB o.dst d && (match o.op with | .fieldAddr t p i => xB NG N p x && (match P.underlying t with | some (.struct fs) => (match fs[i]? with | some f => Nat.beq f.offset z && (match (P.info? f.type).map (·.size) with | some (n + 1) => true | _ => false) | none => false) | _ => false) | _ => false)
theorem snd_fld {z : Nat} {x : X} {d : D} (h : okFld P NG N o z x d = true) : Snd P NG B0 N C o (.fld z x d) := fun c _ fr s => by
  simp only [okFld, Bool.and_eq_true] at h
  obtain ⟨hd, h⟩ := h
  show Ct (hFld z x d c fr s) _
  unfold hFld
  refine Ct.onP fun b q e => Ct.strictN (Ct.fin (do_pure hd fun r w a hb hs hf => ?_))
  split at h
  · rename_i t p i e'
    simp only [Bool.and_eq_true] at h
    obtain ⟨h1, h⟩ := h
    have h1 := xB_rel h1 hb hf
    rw [e] at h1
    simp only [Rel] at h1
    split at h
    · rename_i fs hu
      split at h
      · rename_i f hfi
        simp only [Bool.and_eq_true] at h
        obtain ⟨hz, h⟩ := h
        split at h
        · rename_i n hn
          refine ⟨.pointer (some ⟨r.blk b, r.off b + q + z, none⟩), ?_, ⟨h1.1, by simp [Nat.add_assoc]⟩⟩
          rw [ex_fieldAddr e', h1.2]
          refine run_v ?_
          have hz' := Nat.eq_of_beq_eq_true hz
          simp only [Instr.fieldAt, Sem.run_bind, run_und hu, Result.andThen_ok, hfi, Instr.sureAddr, Sem.run_pure, fieldPlace, run_size hn, Nat.succ_ne_zero, if_false, Addr.add_mid, hz']
        · cases h
      · cases h
    · cases h
  · cases h
end
end Go.Proofs.YtenpbpgoglepfaaGreatDoor
namespace Go.Proofs.YtenpbpgoglepfaaGreatDoor
open Go.RowKit
set_option linter.unusedVariables false

section
variable {P : Program} {NG : Env} {B0 N : Nat} {C : CallE → Prop} {o : Oper} {E : Fr → St → Prop}
noncomputable def szB (P : Program) (t n : Nat) : Bool := match (P.info? t).map (·.size) with | some m => Nat.beq m n | none => false
theorem szB_eq {t n : Nat} (h : szB P t n = true) : (P.info? t).map (·.size) = some n := by
  unfold szB at h
  split at h
  · rename_i m e; rw [e, Nat.eq_of_beq_eq_true h]
  · cases h
noncomputable def okIdx (P : Program) (NG N : Nat) (o : Oper) (z : Nat) (x i : X) (d : D) : Bool := dB o.dst d && (match o.op with | .indexAddr t p q => xB NG N p x && xB NG N q i && (match P.underlying t with | some (.slice el) => szB P el z | _ => false) | _ => false)
theorem blt_lt {m n : Nat} (h : Nat.blt m n = true) : m < n := by rw [blt_eq, decide_eq_true_eq] at h; exact h
theorem snd_idx {z : Nat} {x i : X} {d : D} (h : okIdx P NG N o z x i d = true) : Snd P NG B0 N C o (.idx z x i d) := fun c _ fr s => by
  simp only [okIdx, Bool.and_eq_true] at h
  obtain ⟨hd, h⟩ := h
  show Ct (hIdx z x i d c fr s) _
  unfold hIdx
  refine Ct.onS fun b q z' n cp ex e => Ct.onI fun t j e2 => Ct.natI fun m hm => Ct.must fun hlt => Ct.must fun hz => Ct.strictN (Ct.fin (do_pure hd fun r w a hb hs hf => ?_))
  subst hm
  have hlt := blt_lt hlt
  obtain rfl := Nat.eq_of_beq_eq_true hz
  split at h
  · rename_i ty p p' e'
    simp only [Bool.and_eq_true] at h
    have h1 := xB_rel h.1.1 hb hf
    have h2 := xB_rel h.1.2 hb hf
    rw [e] at h1
    rw [e2] at h2
    simp only [Rel] at h1 h2
    obtain ⟨hbn, x0, c0, hv, hx, _, _, _, _⟩ := h1
    obtain ⟨_, h⟩ := h
    split at h
    · rename_i el hu
      have hsz := szB_eq h
      refine ⟨.pointer (some ⟨r.blk b, r.off b + (q + m * z), none⟩), ?_, ⟨hbn, rfl⟩⟩
      rw [ex_indexAddr e', hv, h2]
      refine run_v ?_
      have hx0 := hx (by omega)
      simp only [Instr.indexAt, asIntOf, Sem.run_bind, Sem.run_pure, Result.andThen_ok, run_und hu, Int.ofNat_eq_natCast, Int.toNat_natCast]
      have hc : (0 : Int) ≤ (m : Int) ∧ (m : Int) < (n : Int) := ⟨by omega, by omega⟩
      rw [if_pos hc]
      simp only [Sem.run_bind, run_size hsz, Result.andThen_ok, Sem.run_pure, Addr.add_mid, hx0, Nat.add_assoc]
    · cases h
  · cases h
noncomputable def okIxa (P : Program) (NG N : Nat) (o : Oper) (z n : Nat) (x i : X) (d : D) : Bool := dB o.dst d && (match o.op with | .indexAddr t p q => xB NG N p x && xB NG N q i && (match P.underlying t with | some (.array n' el) => szB P el z && Nat.beq n' n | _ => false) | _ => false)
theorem snd_ixa {z n : Nat} {x i : X} {d : D} (h : okIxa P NG N o z n x i d = true) : Snd P NG B0 N C o (.ixa z n x i d) := fun c _ fr s => by
  simp only [okIxa, Bool.and_eq_true] at h
  obtain ⟨hd, h⟩ := h
  show Ct (hIxa z n x i d c fr s) _
  unfold hIxa
  refine Ct.onP fun b q e => Ct.onI fun t j e2 => Ct.natI fun m hm => Ct.must fun hlt => Ct.strictN (Ct.fin (do_pure hd fun r w a hb hs hf => ?_))
  subst hm
  have hlt := blt_lt hlt
  split at h
  · rename_i ty p p' e'
    simp only [Bool.and_eq_true] at h
    have h1 := xB_rel h.1.1 hb hf
    have h2 := xB_rel h.1.2 hb hf
    rw [e] at h1
    rw [e2] at h2
    simp only [Rel] at h1 h2
    obtain ⟨_, h⟩ := h
    split at h
    · rename_i n' el hu
      simp only [Bool.and_eq_true] at h
      have hsz := szB_eq h.1
      obtain rfl := Nat.eq_of_beq_eq_true h.2
      refine ⟨.pointer (some ⟨r.blk b, r.off b + (q + m * z), none⟩), ?_, ⟨h1.1, rfl⟩⟩
      rw [ex_indexAddr e', h1.2, h2]
      refine run_v ?_
      simp only [Instr.indexAt, asIntOf, Sem.run_bind, Sem.run_pure, Result.andThen_ok, run_und hu, Int.ofNat_eq_natCast, Int.toNat_natCast, Instr.sureAddr]
      have hc : (0 : Int) ≤ (m : Int) ∧ (m : Int) < (n' : Int) := ⟨by omega, by omega⟩
      rw [if_pos hc]
      simp only [Sem.run_bind, run_size hsz, Result.andThen_ok, Sem.run_pure, Addr.add_mid, Nat.add_assoc]
    · cases h
  · cases h
noncomputable def xsB (NG N : Nat) : List Operand → List X → Bool
  | [], [] => true
  | p :: l, x :: m => xB NG N p x && xsB NG N l m
  | _, _ => false
theorem xsB_rel {r : Rho} {fr : Fr} {a : Act} (hb : Base NG r) (hf : FrR N r fr a) : ∀ {l : List Operand} {m : List X}, xsB NG N l m = true → RelL r (evXs m fr) (l.map a.eval)
  | [], [], _ => rfl
  | p :: l, x :: m, h => by
    simp only [xsB, Bool.and_eq_true] at h
    exact ⟨_, _, rfl, xB_rel h.1 hb hf, xsB_rel hb hf h.2⟩
  | [], _ :: _, h => by cases h
  | _ :: _, [], h => by cases h
noncomputable def okMkf (NG N : Nat) (o : Oper) (g : Nat) (fs cs : List X) (d : D) : Bool := dB o.dst d && (match o.op with | .makeFunc (.func g') ps qs => Nat.beq g' g && xsB NG N ps.toList fs && xsB NG N qs.toList cs | _ => false)
theorem snd_mkf {g : Nat} {fs cs : List X} {d : D} (h : okMkf NG N o g fs cs d = true) : Snd P NG B0 N C o (.mkf g fs cs d) := fun c _ fr s => by
  simp only [okMkf, Bool.and_eq_true] at h
  obtain ⟨hd, h⟩ := h
  refine Ct.fin (do_pure hd fun r w a hb hs hf => ?_)
  split at h
  · rename_i g' ps qs e'
    simp only [Bool.and_eq_true] at h
    obtain rfl := Nat.eq_of_beq_eq_true h.1.1
    refine ⟨.func (.func g') (ps.map a.eval) (qs.map a.eval), by rw [ex_makeFunc e']; rfl, ⟨_, _, rfl, ?_, ?_⟩⟩
    · rw [Array.toList_map]; exact xsB_rel hb hf h.1.2
    · rw [Array.toList_map]; exact xsB_rel hb hf h.2
  · cases h
noncomputable def okMki (P : Program) (NG N : Nat) (o : Oper) (t : Nat) (x : X) (d : D) : Bool := dB o.dst d && (match o.op with | .makeInterface t' p => Nat.beq t' t && xB NG N p x && (match P.underlying t' with | some (.interface _) => false | some _ => true | none => false) | _ => false)
theorem snd_mki {t : Nat} {x : X} {d : D} (h : okMki P NG N o t x d = true) : Snd P NG B0 N C o (.mki t x d) := fun c _ fr s => by
  simp only [okMki, Bool.and_eq_true] at h
  obtain ⟨hd, h⟩ := h
  refine Ct.fin (do_pure hd fun r w a hb hs hf => ?_)
  split at h
  · rename_i t' p e'
    simp only [Bool.and_eq_true] at h
    obtain ⟨⟨ht, hx⟩, h⟩ := h
    obtain rfl := Nat.eq_of_beq_eq_true ht
    refine ⟨.iface t' (a.eval p), ?_, ⟨_, rfl, xB_rel hx hb hf⟩⟩
    rw [ex_makeInterface e']
    refine run_v ?_
    split at h
    · cases h
    · rename_i dd hu hn
      simp only [Instr.makeInterface, Sem.run_bind, run_und hn, Result.andThen_ok]
      cases dd <;> first | rfl | exact absurd rfl (hu _)
    · cases h
  · cases h
theorem nthL_rel {r : Rho} : ∀ {l : AV} {vs : List Value} (n : Nat), RelL r l vs → nthL l n ≠ .u → ∃ v, vs[n]? = some v ∧ Rel r (nthL l n) v
  | .nil, _, n, h, hu => absurd rfl hu
  | .cons x l, vs, n, h, hu => by
    obtain ⟨v, vs', rfl, h1, h2⟩ := h
    cases n with
    | zero => exact ⟨v, rfl, h1⟩
    | succ n => exact nthL_rel n h2 hu
  | .u, _, _, h, _ => by simp [RelL] at h
  | .i _ _, _, _, h, _ => by simp [RelL] at h
  | .b _, _, _, h, _ => by simp [RelL] at h
  | .p _ _, _, _, h, _ => by simp [RelL] at h
  | .np, _, _, h, _ => by simp [RelL] at h
  | .s .., _, _, h, _ => by simp [RelL] at h
  | .ns, _, _, h, _ => by simp [RelL] at h
  | .str _, _, _, h, _ => by simp [RelL] at h
  | .m _, _, _, h, _ => by simp [RelL] at h
  | .nm, _, _, h, _ => by simp [RelL] at h
  | .f .., _, _, h, _ => by simp [RelL] at h
  | .nf, _, _, h, _ => by simp [RelL] at h
  | .ifc .., _, _, h, _ => by simp [RelL] at h
  | .ni, _, _, h, _ => by simp [RelL] at h
  | .agg _, _, _, h, _ => by simp [RelL] at h
  | .tup _, _, _, h, _ => by simp [RelL] at h
noncomputable def okExt (NG N : Nat) (o : Oper) (i : Nat) (x : X) (d : D) : Bool := dB o.dst d && (match o.op with | .extract p j => xB NG N p x && Nat.beq j i | _ => false)
theorem snd_ext {i : Nat} {x : X} {d : D} (h : okExt NG N o i x d = true) : Snd P NG B0 N C o (.ext i x d) := fun c _ fr s => by
  simp only [okExt, Bool.and_eq_true] at h
  obtain ⟨hd, h⟩ := h
  show Ct (hExt i x d c fr s) _
  unfold hExt
  refine Ct.onT fun l e => Ct.isU fun hu => Ct.fin (do_pure hd fun r w a hb hs hf => ?_)
  split at h
  · rename_i p j e'
    simp only [Bool.and_eq_true] at h
    have h1 := xB_rel h.1 hb hf
    rw [e] at h1
    obtain ⟨vs, hv, h1⟩ := h1
    obtain rfl := Nat.eq_of_beq_eq_true h.2
    obtain ⟨v, hg, hr⟩ := nthL_rel j h1 hu
    refine ⟨v, ?_, hr⟩
    rw [ex_extract e', hv]
    refine run_v ?_
    rw [Array.getElem?_toList] at hg
    simp only [Instr.extract, hg, Sem.run_pure]
  · cases h
end
end Go.Proofs.YtenpbpgoglepfaaGreatDoor
namespace Go.Proofs.YtenpbpgoglepfaaGreatDoor
open Go.RowKit
set_option linter.unusedVariables false

section
variable {P : Program} {NG : Env} {B0 N : Nat} {C : CallE → Prop} {o : Oper} {E : Fr → St → Prop}
def aggD : TypeDesc → Bool
  | .struct _ | .array _ _ => true
  | _ => false
theorem run_isAgg {t : TypeId} {d : TypeDesc} (h : P.underlying t = some d) (w : World) : (isAgg t).run P w = .ok (aggD d) w := by
  unfold isAgg
  rw [Sem.run_bind, run_und h]
  cases d <;> rfl
noncomputable def aggB (P : Program) (t : TypeId) (b : Bool) : Bool := match P.underlying t with | some d => aggD d == b | none => false
theorem aggB_eq {t : TypeId} {b : Bool} (h : aggB P t b = true) (w : World) : (isAgg t).run P w = .ok b w := by
  unfold aggB at h
  split at h
  · rename_i d hd; rw [run_isAgg hd, ← beq_iff_eq.1 h]
  · cases h
theorem run_part1 {t : TypeId} {cs : Array Value} {off : Nat} {v : Value} (h : aggB P t false = true) (hv : cs[off]? = some v) (w : World) : (part t cs off).run P w = .ok v w := by
  unfold part
  simp only [Sem.run_bind, aggB_eq h, Result.andThen_ok, Bool.false_eq_true, if_false, hv, Sem.run_pure]
theorem run_partN {t n : Nat} {cs : Array Value} {off : Nat} (h : aggB P t true = true) (hs : szB P t n = true) (w : World) : (part t cs off).run P w = .ok (.agg (cs.extract off (off + n))) w := by
  unfold part
  simp only [Sem.run_bind, aggB_eq h, Result.andThen_ok, if_true, run_size (szB_eq hs), Sem.run_pure]
noncomputable def okFi1 (P : Program) (NG N : Nat) (o : Oper) (z : Nat) (x : X) (d : D) : Bool := dB o.dst d && (match o.op with | .field t p i => xB NG N p x && (match P.underlying t with | some (.struct fs) => (match fs[i]? with | some f => Nat.beq f.offset z && aggB P f.type false | none => false) | _ => false) | _ => false)
theorem snd_fi1 {z : Nat} {x : X} {d : D} (h : okFi1 P NG N o z x d = true) : Snd P NG B0 N C o (.fi1 z x d) := fun c _ fr s => by
  simp only [okFi1, Bool.and_eq_true] at h
  obtain ⟨hd, h⟩ := h
  show Ct (hFi1 z x d c fr s) _
  unfold hFi1
  refine Ct.onG fun l e => Ct.isU fun hu => Ct.fin (do_pure hd fun r w a hb hs hf => ?_)
  split at h
  · rename_i t p i e'
    simp only [Bool.and_eq_true] at h
    have h1 := xB_rel h.1 hb hf
    rw [e] at h1
    obtain ⟨vs, hv, h1⟩ := h1
    obtain ⟨v, hg, hr⟩ := nthL_rel z h1 hu
    obtain ⟨_, h⟩ := h
    split at h
    · rename_i fs hun
      split at h
      · rename_i f hfi
        simp only [Bool.and_eq_true] at h
        obtain rfl := Nat.eq_of_beq_eq_true h.1
        refine ⟨v, ?_, hr⟩
        rw [ex_field e', hv]
        refine run_v ?_
        rw [Array.getElem?_toList] at hg
        simp only [Instr.field, Sem.run_bind, run_und hun, Result.andThen_ok, hfi, asAgg, Sem.run_pure, run_part1 h.2 hg]
      · cases h
    · cases h
  · cases h
theorem dropL_rel {r : Rho} : ∀ {l : AV} {vs : List Value} (n : Nat), RelL r l vs → RelL r (dropL l n) (vs.drop n)
  | .nil, vs, n, h => by
    simp only [RelL] at h; subst h; simp only [List.drop_nil]; exact (show RelL r .nil [] from rfl)
  | .cons x l, vs, n, h => by
    obtain ⟨v, vs', rfl, h1, h2⟩ := h
    cases n with
    | zero => exact ⟨v, vs', rfl, h1, h2⟩
    | succ n => exact dropL_rel n h2
  | .u, _, _, h => by simp [RelL] at h
  | .i _ _, _, _, h => by simp [RelL] at h
  | .b _, _, _, h => by simp [RelL] at h
  | .p _ _, _, _, h => by simp [RelL] at h
  | .np, _, _, h => by simp [RelL] at h
  | .s .., _, _, h => by simp [RelL] at h
  | .ns, _, _, h => by simp [RelL] at h
  | .str _, _, _, h => by simp [RelL] at h
  | .m _, _, _, h => by simp [RelL] at h
  | .nm, _, _, h => by simp [RelL] at h
  | .f .., _, _, h => by simp [RelL] at h
  | .nf, _, _, h => by simp [RelL] at h
  | .ifc .., _, _, h => by simp [RelL] at h
  | .ni, _, _, h => by simp [RelL] at h
  | .agg _, _, _, h => by simp [RelL] at h
  | .tup _, _, _, h => by simp [RelL] at h
theorem takeL_rel {r : Rho} : ∀ {l : AV} {vs : List Value} (n : Nat), RelL r l vs → RelL r (takeL l n) (vs.take n)
  | .nil, vs, n, h => by
    simp only [RelL] at h; subst h; simp only [List.take_nil]; exact (show RelL r .nil [] from rfl)
  | .cons x l, vs, n, h => by
    obtain ⟨v, vs', rfl, h1, h2⟩ := h
    cases n with
    | zero => exact (show RelL r .nil [] from rfl)
    | succ n => exact ⟨v, _, rfl, h1, takeL_rel n h2⟩
  | .u, _, _, h => by simp [RelL] at h
  | .i _ _, _, _, h => by simp [RelL] at h
  | .b _, _, _, h => by simp [RelL] at h
  | .p _ _, _, _, h => by simp [RelL] at h
  | .np, _, _, h => by simp [RelL] at h
  | .s .., _, _, h => by simp [RelL] at h
  | .ns, _, _, h => by simp [RelL] at h
  | .str _, _, _, h => by simp [RelL] at h
  | .m _, _, _, h => by simp [RelL] at h
  | .nm, _, _, h => by simp [RelL] at h
  | .f .., _, _, h => by simp [RelL] at h
  | .nf, _, _, h => by simp [RelL] at h
  | .ifc .., _, _, h => by simp [RelL] at h
  | .ni, _, _, h => by simp [RelL] at h
  | .agg _, _, _, h => by simp [RelL] at h
  | .tup _, _, _, h => by simp [RelL] at h
noncomputable def okFin (P : Program) (NG N : Nat) (o : Oper) (z n : Nat) (x : X) (d : D) : Bool := dB o.dst d && (match o.op with | .field t p i => xB NG N p x && (match P.underlying t with | some (.struct fs) => (match fs[i]? with | some f => Nat.beq f.offset z && aggB P f.type true && szB P f.type n | none => false) | _ => false) | _ => false)
theorem snd_fin {z n : Nat} {x : X} {d : D} (h : okFin P NG N o z n x d = true) : Snd P NG B0 N C o (.fin z n x d) := fun c _ fr s => by
  simp only [okFin, Bool.and_eq_true] at h
  obtain ⟨hd, h⟩ := h
  show Ct (hFin z n x d c fr s) _
  unfold hFin
  refine Ct.onG fun l e => Ct.fin (do_pure hd fun r w a hb hs hf => ?_)
  split at h
  · rename_i t p i e'
    simp only [Bool.and_eq_true] at h
    have h1 := xB_rel h.1 hb hf
    rw [e] at h1
    obtain ⟨vs, hv, h1⟩ := h1
    obtain ⟨_, h⟩ := h
    split at h
    · rename_i fs hun
      split at h
      · rename_i f hfi
        simp only [Bool.and_eq_true] at h
        obtain rfl := Nat.eq_of_beq_eq_true h.1.1
        refine ⟨.agg (vs.extract f.offset (f.offset + n)), ?_, ⟨_, rfl, ?_⟩⟩
        · rw [ex_field e', hv]
          refine run_v ?_
          simp only [Instr.field, Sem.run_bind, run_und hun, Result.andThen_ok, hfi, asAgg, Sem.run_pure, run_partN h.1.2 h.2]
        · have e3 : (vs.extract f.offset (f.offset + n)).toList = (vs.toList.drop f.offset).take n := by
            rw [Array.toList_extract, List.extract_eq_take_drop]
            congr 1
            omega
          rw [e3]
          exact takeL_rel n (dropL_rel _ h1)
      · cases h
    · cases h
  · cases h
noncomputable def okIna (P : Program) (NG N : Nat) (o : Oper) (n : Nat) (x i : X) (d : D) : Bool := dB o.dst d && (match o.op with | .index t p q => xB NG N p x && xB NG N q i && (match P.underlying t with | some (.array n' el) => Nat.beq n' n && aggB P el false && szB P el 1 | _ => false) | _ => false)
theorem snd_ina {n : Nat} {x i : X} {d : D} (h : okIna P NG N o n x i d = true) : Snd P NG B0 N C o (.ina n x i d) := fun c _ fr s => by
  simp only [okIna, Bool.and_eq_true] at h
  obtain ⟨hd, h⟩ := h
  show Ct (hIna n x i d c fr s) _
  unfold hIna
  refine Ct.onG fun l e => Ct.onI fun t j e2 => Ct.natI fun m hm => Ct.must fun hlt => Ct.isU fun hu => Ct.fin (do_pure hd fun r w a hb hs hf => ?_)
  subst hm
  have hlt := blt_lt hlt
  split at h
  · rename_i ty p q e'
    simp only [Bool.and_eq_true] at h
    have h1 := xB_rel h.1.1 hb hf
    have h2 := xB_rel h.1.2 hb hf
    rw [e] at h1
    rw [e2] at h2
    obtain ⟨vs, hv, h1⟩ := h1
    simp only [Rel] at h2
    obtain ⟨v, hg, hr⟩ := nthL_rel m h1 hu
    obtain ⟨_, h⟩ := h
    split at h
    · rename_i n' el hun
      simp only [Bool.and_eq_true] at h
      obtain rfl := Nat.eq_of_beq_eq_true h.1.1
      refine ⟨v, ?_, hr⟩
      rw [ex_index e', hv, h2]
      refine run_v ?_
      rw [Array.getElem?_toList] at hg
      have hc : (0 : Int) ≤ (m : Int) ∧ (m : Int) < (n' : Int) := ⟨by omega, by omega⟩
      simp only [Instr.index, asIntOf, Sem.run_bind, Sem.run_pure, Result.andThen_ok, run_und hun, Int.ofNat_eq_natCast, Int.toNat_natCast]
      rw [if_pos hc]
      simp only [Sem.run_bind, run_size (szB_eq h.2), Result.andThen_ok, Nat.mul_one]
      exact run_part1 h.1.2 hg w
    · cases h
  · cases h
noncomputable def okIns (P : Program) (NG N : Nat) (o : Oper) (x i : X) (d : D) : Bool := dB o.dst d && (match o.op with | .index t p q => xB NG N p x && xB NG N q i && (match P.underlying t with | some .string => true | _ => false) | _ => false)
theorem snd_ins {x i : X} {d : D} (h : okIns P NG N o x i d = true) : Snd P NG B0 N C o (.ins x i d) := fun c _ fr s => by
  simp only [okIns, Bool.and_eq_true] at h
  obtain ⟨hd, h⟩ := h
  show Ct (hIns x i d c fr s) _
  unfold hIns
  refine Ct.onStr fun l e => Ct.onI fun t j e2 => Ct.natI fun m hm => ?_
  rcases hl : l[m]? with _ | b
  · exact Ct.bad
  refine Ct.fin (do_pure hd fun r w a hb hs hf => ?_)
  subst hm
  split at h
  · rename_i ty p q e'
    simp only [Bool.and_eq_true] at h
    have h1 := xB_rel h.1.1 hb hf
    have h2 := xB_rel h.1.2 hb hf
    rw [e] at h1
    rw [e2] at h2
    obtain ⟨str, hv, h1⟩ := h1
    simp only [Rel] at h2
    obtain ⟨_, h⟩ := h
    split at h
    · rename_i hun
      have : ∃ u : UInt8, str[m]? = some u ∧ u.toNat = b := by
        rw [← h1, List.getElem?_map] at hl
        rcases hu : str.data.toList[m]? with _ | u
        · rw [hu] at hl; cases hl
        · rw [hu] at hl
          refine ⟨u, ?_, by simpa using hl⟩
          have hm : m < str.size := by
            have := (List.getElem?_eq_some_iff.1 hu).1
            simpa using this
          have e4 := (List.getElem?_eq_some_iff.1 hu).2
          rw [getElem?_pos str m hm, ← e4]
          rfl
      obtain ⟨u, hu, rfl⟩ := this
      refine ⟨.int .u8 u.toNat, ?_, rfl⟩
      rw [ex_index e', hv, h2]
      refine run_v ?_
      have hc : (0 : Int) ≤ (m : Int) := by omega
      simp only [Instr.index, asIntOf, Sem.run_bind, Sem.run_pure, Result.andThen_ok, run_und hun, Int.ofNat_eq_natCast, Int.toNat_natCast, if_pos hc, hu]
    · cases h
  · cases h
end
end Go.Proofs.YtenpbpgoglepfaaGreatDoor
namespace Go.Proofs.YtenpbpgoglepfaaGreatDoor
open Go.RowKit
set_option linter.unusedVariables false

section
variable {P : Program} {NG : Env} {B0 N : Nat} {C : CallE → Prop} {o : Oper} {E : Fr → St → Prop}
noncomputable def okCat (NG N : Nat) (o : Oper) (x y : X) (d : D) : Bool := dB o.dst d && (match o.op with | .binOp .add _ p p' _ => xB NG N p x && xB NG N p' y | _ => false)
theorem str_size {s : ByteArray} {l : List Nat} (h : s.data.toList.map (fun b => b.toNat) = l) : s.size = l.length := by
  rw [← h, List.length_map, Array.length_toList]; rfl
theorem snd_cat {x y : X} {d : D} (h : okCat NG N o x y d = true) : Snd P NG B0 N C o (.cat x y d) := fun c _ fr s => by
  simp only [okCat, Bool.and_eq_true] at h
  obtain ⟨hd, h⟩ := h
  show Ct (hCat x y d c fr s) _
  unfold hCat
  refine Ct.onStr fun l e => Ct.onStr fun m e2 => Ct.must fun hl => Ct.fin (do_pure hd fun r w a hb hs hf => ?_)
  split at h
  · rename_i u p p' u' e'
    simp only [Bool.and_eq_true] at h
    have h1 := xB_rel h.1 hb hf
    have h2 := xB_rel h.2 hb hf
    rw [e] at h1
    rw [e2] at h2
    obtain ⟨s1, hv1, h1⟩ := h1
    obtain ⟨s2, hv2, h2⟩ := h2
    have hl := Nat.le_of_ble_eq_true hl
    have hl' : l.length + m.length ≤ 1000000 := hl
    refine ⟨.string (s1 ++ s2), ?_, ⟨_, rfl, ?_⟩⟩
    · rw [ex_binOp e', hv1, hv2]
      refine run_v ?_
      have hg : ¬ (((s1.size + s2.size : Nat) : Int) > IntKind.i64.max) := by
        rw [str_size h1, str_size h2]
        show ¬ (((l.length + m.length : Nat) : Int) > 9223372036854775807)
        omega
      have : (eqGuard .add u p p' (.string s1) (.string s2)).run P w = .ok () w := rfl
      rw [Sem.run_bind, this]
      show (Op.stringOp .add s1 s2).run P w = _
      simp only [Op.stringOp]
      rw [if_neg hg]
      rfl
    · rw [ByteArray.data_append, Array.toList_append, List.map_append, h1, h2]
  · cases h
noncomputable def xoB (NG N : Nat) : Option Operand → Option X → Bool
  | none, none => true
  | some p, some x => xB NG N p x
  | _, _ => false
/-- A bound: what is given, or so much. -/
def Bnd (x : Option X) (e : Nat) (fr : Fr) (n : Nat) : Prop := (x = none ∧ n = e) ∨ ∃ y t, x = some y ∧ X.ev y fr = .i t (.ofNat n)
theorem Ct.optN {x : Option X} {e : Nat} {fr : Fr} {f : Nat → K → R} (h : ∀ n, Bnd x e fr n → Ct (f n) E) : Ct (fun k => Go.Proofs.YtenpbpgoglepfaaGreatDoor.optN x e fr fun n => f n k) E := by
  cases x with
  | none => exact h e (.inl ⟨rfl, rfl⟩)
  | some y => exact Ct.onI (v := X.ev y fr) fun t j e1 => Ct.natI fun m hm => h m (.inr ⟨y, t, rfl, by rw [e1, hm]⟩)
/-- .. as the machine has it. -/
def BndV (p : Option Value) (e n : Nat) : Prop := (p = none ∧ n = e) ∨ ∃ t, p = some (.int t (n : Int))
theorem Bnd.val {x : Option X} {p : Option Operand} {e n : Nat} {fr : Fr} {r : Rho} {a : Act} (h : Bnd x e fr n) (hp : xoB NG N p x = true) (hb : Base NG r) (hf : FrR N r fr a) : BndV (p.map a.eval) e n := by
  rcases h with ⟨rfl, rfl⟩ | ⟨y, t, rfl, e1⟩
  · cases p with
    | none => exact .inl ⟨rfl, rfl⟩
    | some p => cases hp
  · cases p with
    | none => cases hp
    | some p =>
      have h1 := xB_rel hp hb hf
      rw [e1] at h1
      simp only [Rel] at h1
      exact .inr ⟨t, by rw [Option.map_some, h1]; rfl⟩
theorem run_bound {t : IntKind} {n y : Nat} {code : BoundsCode} (h : n ≤ y) (w : World) : (Instr.sliceBound (.int t (n : Int)) y code).run P w = .ok n w := by
  have hc : (0 : Int) ≤ (n : Int) ∧ (n : Int) ≤ (y : Int) := ⟨by omega, by omega⟩
  simp only [Instr.sliceBound, asIntOf, Sem.run_bind, Sem.run_pure, Result.andThen_ok, if_pos hc, Int.toNat_natCast]
def mxV (mx : Option Value) (c m : Nat) : Nat := match mx with | none => c | some _ => m
theorem run_bounds {b : Bool} {len cap cap' l h m : Nat} {lo hi mx : Option Value} (hlo : BndV lo 0 l) (hhi : BndV hi len h) (hmx : BndV mx cap m) (hm : mx ≠ none → hi ≠ none) (h1 : l ≤ h) (h2 : h ≤ m) (h3 : m ≤ cap) (h4 : cap ≤ cap') (w : World) :
    (Instr.sliceBounds b len cap' lo hi mx).run P w = .ok (l, h, mxV mx cap' m) w := by
  unfold Instr.sliceBounds
  rcases hmx with ⟨rfl, rfl⟩ | ⟨tm, rfl⟩
  · rcases hhi with ⟨rfl, rfl⟩ | ⟨th, rfl⟩
    · rcases hlo with ⟨rfl, rfl⟩ | ⟨tl, rfl⟩
      · simp only [Sem.run_bind, Sem.run_pure, Result.andThen_ok, mxV]
      · simp only [Sem.run_bind, Sem.run_pure, Result.andThen_ok, mxV, run_bound h1]
    · rcases hlo with ⟨rfl, rfl⟩ | ⟨tl, rfl⟩
      · simp only [Sem.run_bind, Sem.run_pure, Result.andThen_ok, mxV, run_bound (show h ≤ cap' by omega)]
      · simp only [Sem.run_bind, Sem.run_pure, Result.andThen_ok, mxV, run_bound h1, run_bound (show h ≤ cap' by omega)]
  · rcases hhi with ⟨rfl, rfl⟩ | ⟨th, rfl⟩
    · exact absurd rfl (hm (by simp))
    · rcases hlo with ⟨rfl, rfl⟩ | ⟨tl, rfl⟩
      · simp only [Sem.run_bind, Sem.run_pure, Result.andThen_ok, mxV, run_bound h2, run_bound (show m ≤ cap' by omega)]
      · simp only [Sem.run_bind, Sem.run_pure, Result.andThen_ok, mxV, run_bound h1, run_bound h2, run_bound (show m ≤ cap' by omega)]
noncomputable def okSlc (P : Program) (NG N : Nat) (o : Oper) (z : Nat) (x : X) (lo hi mx : Option X) (d : D) : Bool := dB o.dst d && (match o.op with | .slice t p l h m => xB NG N p x && xoB NG N l lo && xoB NG N h hi && xoB NG N m mx && (m.isNone || h.isSome) && (match P.underlying t with | some (.slice el) => szB P el z | _ => false) | _ => false)
theorem snd_slc {z : Nat} {x : X} {lo hi mx : Option X} {d : D} (hok : okSlc P NG N o z x lo hi mx d = true) : Snd P NG B0 N C o (.slc z x lo hi mx d) := fun c _ fr s => by
  simp only [okSlc, Bool.and_eq_true] at hok
  obtain ⟨hd, hok⟩ := hok
  split at hok
  case h_2 => cases hok
  rename_i ty p pl ph pm e'
  simp only [Bool.and_eq_true] at hok
  obtain ⟨⟨⟨⟨⟨hx, hl⟩, hh⟩, hm⟩, hmh⟩, hok⟩ := hok
  split at hok
  case h_2 => cases hok
  rename_i el hun
  have hsz := szB_eq hok
  have hmh' : ∀ a : Act, pm.map a.eval ≠ none → ph.map a.eval ≠ none := by
    intro a
    cases pm <;> cases ph <;> simp_all
  show Ct (hSlc z x lo hi mx d c fr s) _
  unfold hSlc
  refine Ct.isNs (fun _ => ?_) fun hns => ?_
  · refine Ct.onS fun b q z' len cap ex e => Ct.must fun hz => Ct.optN fun m hm1 => Ct.optN fun h hh1 => Ct.optN fun l hl1 => Ct.must fun c1 => Ct.must fun c2 => Ct.must fun c3 => Ct.strictN (Ct.strictN (Ct.strictN (Ct.fin (do_pure hd fun r w a hb hs hf => ?_))))
    obtain rfl := Nat.eq_of_beq_eq_true hz
    have c1 := Nat.le_of_ble_eq_true c1
    have c2 := Nat.le_of_ble_eq_true c2
    have c3 := Nat.le_of_ble_eq_true c3
    have h1 := xB_rel hx hb hf
    rw [e] at h1
    simp only [Rel] at h1
    obtain ⟨hbn, x0, c0, hv, hx0, hcap, hex, hlc, htot⟩ := h1
    have bl := hl1.val hl hb hf
    have bh := hh1.val hh hb hf
    have bm := hm1.val hm hb hf
    have run := run_bounds (P := P) (b := true) bl bh bm (hmh' a) c1 c2 c3 hcap w
    have hg : (execOp a.eval o).run P w = .ok (.value (.slice (if mxV (pm.map a.eval) c0 m = l then some ⟨r.blk b, x0, none⟩ else some ⟨r.blk b, x0 + l * z, none⟩) (h - l) (mxV (pm.map a.eval) c0 m - l))) w := by
      rw [ex_slice e', hv]
      refine run_v ?_
      simp only [Instr.sliceAt, Sem.run_bind, run_und hun, Result.andThen_ok, Instr.slice, run, run_size hsz, Sem.run_pure, Option.map_some, Addr.add_mid]
    refine ⟨_, hg, ?_⟩
    show Rel r (.s b _ z (h - l) (m - l) _) _
    cases mx with
    | none =>
      have : pm = none := by cases pm with | none => rfl | some _ => cases hm
      subst this
      rw [show mxV (Option.map a.eval none) c0 m = c0 from rfl]
      have hm2 : m = cap := by
        rcases hm1 with ⟨_, rfl⟩ | ⟨y, t, h', _⟩
        · rfl
        · cases h'
      subst hm2
      have e4 : (ifB (noneB none) ex true) = ex := rfl
      rw [e4]
      by_cases hml : c0 = l
      · have : m = l := by omega
        subst this
        have e5 : ifB (Nat.beq m m) q (Nat.add q (Nat.mul m z)) = q := by rw [Nat.beq_refl]; rfl
        rw [e5, if_pos hml]
        refine ⟨hbn, x0, c0 - m, rfl, fun hc => ?_, by omega, fun hc => by rw [hex hc], by omega, ?_⟩
        · omega
        · have : (c0 - m) * z ≤ c0 * z := Nat.mul_le_mul_right z (by omega)
          omega
      · rw [if_neg hml]
        refine ⟨hbn, x0 + l * z, c0 - l, rfl, fun hc => ?_, by omega, fun hc => by rw [hex hc], by omega, ?_⟩
        · have hne : m ≠ l := by omega
          have e5 : ifB (Nat.beq m l) q (Nat.add q (Nat.mul l z)) = q + l * z := by
            rcases hq : Nat.beq m l with _ | _
            · rfl
            · exact absurd (Nat.eq_of_beq_eq_true hq) hne
          rw [e5]
          have : x0 = r.off b + q := by
            exact hx0 (by omega)
          omega
        · have : l * z + (c0 - l) * z = c0 * z := by rw [← Nat.add_mul]; congr 1; omega
          omega
    | some y =>
      obtain ⟨pv, rfl⟩ : ∃ pv, pm = some pv := by cases pm with | none => cases hm | some v => exact ⟨v, rfl⟩
      rw [show mxV (Option.map a.eval (some pv)) c0 m = m from rfl]
      have e4 : (ifB (noneB (some y)) ex true) = true := rfl
      rw [e4]
      by_cases hml : m = l
      · subst hml
        have e5 : ifB (Nat.beq m m) q (Nat.add q (Nat.mul m z)) = q := by rw [Nat.beq_refl]; rfl
        rw [e5, if_pos rfl]
        refine ⟨hbn, x0, m - m, rfl, fun hc => absurd hc (by omega), by omega, fun _ => rfl, by omega, ?_⟩
        rw [Nat.sub_self, Nat.zero_mul]
        omega
      · rw [if_neg hml]
        have e5 : ifB (Nat.beq m l) q (Nat.add q (Nat.mul l z)) = q + l * z := by
          rcases hq : Nat.beq m l with _ | _
          · rfl
          · exact absurd (Nat.eq_of_beq_eq_true hq) hml
        rw [e5]
        have hx1 : x0 = r.off b + q := hx0 (by omega)
        refine ⟨hbn, x0 + l * z, m - l, rfl, fun _ => by omega, by omega, fun _ => rfl, by omega, ?_⟩
        have e6 : l * z + (m - l) * z = m * z := by rw [← Nat.add_mul]; congr 1; omega
        have e7 : m * z ≤ c0 * z := Nat.mul_le_mul_right z (by omega)
        omega
  · refine Ct.optN fun m hm1 => Ct.optN fun h hh1 => Ct.optN fun l hl1 => Ct.must fun c1 => Ct.must fun c2 => Ct.must fun c3 => Ct.fin (do_pure hd fun r w a hb hs hf => ?_)
    obtain rfl := Nat.eq_of_beq_eq_true c1
    obtain rfl := Nat.eq_of_beq_eq_true c2
    obtain rfl := Nat.eq_of_beq_eq_true c3
    have h1 := xB_rel hx hb hf
    rw [hns] at h1
    have hv : a.eval p = .slice none 0 0 := h1
    have run := run_bounds (P := P) (b := true) (hl1.val hl hb hf) (hh1.val hh hb hf) (hm1.val hm hb hf) (hmh' a) (Nat.le_refl 0) (Nat.le_refl 0) (Nat.le_refl 0) (Nat.le_refl 0) w
    have e0 : mxV (pm.map a.eval) 0 0 = 0 := by cases pm <;> rfl
    rw [e0] at run
    refine ⟨.slice none 0 0, ?_, rfl⟩
    rw [ex_slice e', hv]
    refine run_v ?_
    simp only [Instr.sliceAt, Sem.run_bind, run_und hun, Result.andThen_ok, Instr.slice, run, run_size hsz, Sem.run_pure, Option.map_none, if_true, Nat.sub_self]
noncomputable def okSls (P : Program) (NG N : Nat) (o : Oper) (x : X) (lo hi : Option X) (d : D) : Bool := dB o.dst d && (match o.op with | .slice t p l h none => xB NG N p x && xoB NG N l lo && xoB NG N h hi && (match P.underlying t with | some .string => true | _ => false) | _ => false)
theorem snd_sls {x : X} {lo hi : Option X} {d : D} (hok : okSls P NG N o x lo hi d = true) : Snd P NG B0 N C o (.sls x lo hi d) := fun c _ fr s => by
  simp only [okSls, Bool.and_eq_true] at hok
  obtain ⟨hd, hok⟩ := hok
  split at hok
  case h_2 => cases hok
  rename_i ty p pl ph e'
  simp only [Bool.and_eq_true] at hok
  obtain ⟨⟨⟨hx, hl⟩, hh⟩, hok⟩ := hok
  split at hok
  case h_2 => cases hok
  rename_i hun
  show Ct (hSls x lo hi d c fr s) _
  unfold hSls
  refine Ct.onStr fun l e => Ct.optN fun h hh1 => Ct.optN fun q hl1 => Ct.must fun c1 => Ct.must fun c2 => Ct.fin (do_pure hd fun r w a hb hs hf => ?_)
  have c1 := Nat.le_of_ble_eq_true c1
  have c2 := Nat.le_of_ble_eq_true c2
  have h1 := xB_rel hx hb hf
  rw [e] at h1
  obtain ⟨str, hv, h1⟩ := h1
  have hsz := str_size h1
  have bh := hh1.val hh hb hf
  rw [← hsz] at bh
  have run := run_bounds (P := P) (b := false) (mx := none) (hl1.val hl hb hf) bh (.inl ⟨rfl, rfl⟩ : BndV none str.size str.size) (fun h => absurd rfl h) c1 (by omega) (Nat.le_refl _) (Nat.le_refl _) w
  refine ⟨.string (str.extract q h), ?_, ⟨_, rfl, ?_⟩⟩
  · rw [ex_slice e', hv]
    refine run_v ?_
    simp only [Instr.sliceAt, Sem.run_bind, run_und hun, Result.andThen_ok, Instr.slice, Option.map_none, Option.isSome_none, Bool.false_eq_true, if_false, Sem.run_pure, run]
  · rw [← h1, ByteArray.data_extract, Array.toList_extract, List.extract_eq_take_drop, List.map_take, List.map_drop]
end
end Go.Proofs.YtenpbpgoglepfaaGreatDoor
namespace Go.Proofs.YtenpbpgoglepfaaGreatDoor
open Go.RowKit
set_option linter.unusedVariables false

/-- A list of values. -/
inductive IsL : AV → Prop
  | nil : IsL .nil
  | cons (x : AV) {l : AV} (h : IsL l) : IsL (.cons x l)
theorem relL_isL {r : Rho} : ∀ {l : AV} {vs : List Value}, RelL r l vs → IsL l := by
  intro l
  induction l with
  | nil => exact fun _ => .nil
  | cons x l _ ih => exact fun h => by obtain ⟨v, vs, _, _, h2⟩ := h; exact .cons x (ih h2)
  | _ => exact fun h => by simp [RelL] at h
theorem lenL_cons (x l : AV) : lenL (.cons x l) = lenL l + 1 := rfl
theorem relL_len {r : Rho} : ∀ {l : AV} {vs : List Value}, RelL r l vs → lenL l = vs.length := by
  intro l
  induction l with
  | nil => exact fun h => by simp only [RelL] at h; subst h; rfl
  | cons x l _ ih => exact fun h => by obtain ⟨v, vs, rfl, _, h2⟩ := h; rw [lenL_cons, ih h2]; rfl
  | _ => exact fun h => by simp [RelL] at h
/-- What is read behind a row of writes. -/
theorem Cs.get_putL : ∀ (l : AV) (q : Nat) (c : Cs) (o : Nat), Cs.get (Cs.putL l q c) o = .u ∨ (∃ j, o = q + j ∧ j < lenL l ∧ Cs.get (Cs.putL l q c) o = nthL l j) ∨ ((o < q ∨ q + lenL l ≤ o) ∧ Cs.get (Cs.putL l q c) o = Cs.get c o) := by
  intro l
  induction l with
  | cons x l _ ih =>
    intro q c o
    have e : Cs.putL (.cons x l) q c = Cs.putL l (q + 1) (Cs.put c q x) := rfl
    rw [e, lenL_cons]
    rcases ih (q + 1) (Cs.put c q x) o with h | ⟨j, h1, h2, h3⟩ | ⟨h1, h2⟩
    · exact .inl h
    · exact .inr (.inl ⟨j + 1, by omega, by omega, h3⟩)
    · rcases Cs.get_put c q x o with h | ⟨h, h'⟩ | ⟨h, h'⟩
      · exact .inl (h2.trans h)
      · exact .inr (.inl ⟨0, by omega, by omega, h2.trans h'⟩)
      · exact .inr (.inr ⟨by omega, h2.trans h'⟩)
  | _ => exact fun q c o => .inr (.inr ⟨by simp only [lenL, AV.fold]; omega, rfl⟩)
theorem Cells.putL {r : Rho} {c : Cs} {o0 q : Nat} {cs cs' : Array Value} {l : AV} {vs : List Value} (h : Cells r c o0 cs) (hl : RelL r l vs)
    (hin : ∀ j, j < vs.length → cs'[o0 + q + j]? = vs[j]?) (hout : ∀ o, (o < q ∨ q + vs.length ≤ o) → cs'[o0 + o]? = cs[o0 + o]?) : Cells r (Cs.putL l q c) o0 cs' := fun o ho => by
  rcases Cs.get_putL l q c o with e | ⟨j, h1, h2, h3⟩ | ⟨h1, h2⟩
  · exact absurd e ho
  · rw [h3] at ho ⊢
    obtain ⟨v, hv, hr⟩ := nthL_rel j hl ho
    rw [relL_len hl] at h2
    exact ⟨v, by rw [h1, ← Nat.add_assoc, hin j h2, hv], hr⟩
  · rw [h2] at ho ⊢
    obtain ⟨v, hv, hr⟩ := h o ho
    rw [relL_len hl] at h1
    exact ⟨v, by rw [hout o h1, hv], hr⟩
theorem Cells.mk {r : Rho} {n o0 : Nat} {cs : Array Value} : Cells r (Cs.mk n) o0 cs := fun o ho => absurd (Cs.get_mk n o) ho
theorem Cells.new {r : Rho} {n : Nat} {cs : Array Value} {l : AV} (hl : RelL r l cs.toList) : Cells r (Cs.putL l 0 (Cs.mk n)) 0 cs :=
  Cells.putL (cs := cs) Cells.mk hl (fun j hj => by rw [Nat.zero_add, Array.getElem?_toList]) fun _ _ => rfl
theorem isOne_of {v : AV} {β : Type} {x y : β} (h : x ≠ y) (e : AV.onOne v x y = y) : AV.isOne v = true := by cases v <;> first | rfl | exact absurd e h
theorem allOne_cons {x l : AV} (h : allOne (.cons x l) = true) : AV.isOne x = true ∧ allOne l = true := by
  have e : allOne (.cons x l) = AV.onOne x false (allOne l) := rfl
  rw [e] at h
  cases x <;> first | exact ⟨rfl, h⟩ | cases h
theorem one_rel {r : Rho} {x : AV} {v : Value} (hx : AV.isOne x = true) (h : Rel r x v) : v.oneCell' = true ∧ v.cells = #[v] := by
  cases x <;> simp only [AV.isOne, Bool.false_eq_true] at hx
  case i => simp only [Rel] at h; subst h; exact ⟨rfl, rfl⟩
  case b => simp only [Rel] at h; subst h; exact ⟨rfl, rfl⟩
  case p => simp only [Rel] at h; rw [h.2]; exact ⟨rfl, rfl⟩
  case np => simp only [Rel] at h; subst h; exact ⟨rfl, rfl⟩
  case s => obtain ⟨_, _, _, e, _⟩ := h; subst e; exact ⟨rfl, rfl⟩
  case ns => simp only [Rel] at h; subst h; exact ⟨rfl, rfl⟩
  case str => obtain ⟨_, e, _⟩ := h; subst e; exact ⟨rfl, rfl⟩
  case m => simp only [Rel] at h; rw [h.2]; exact ⟨rfl, rfl⟩
  case nm => simp only [Rel] at h; subst h; exact ⟨rfl, rfl⟩
  case f => obtain ⟨_, _, e, _⟩ := h; subst e; exact ⟨rfl, rfl⟩
  case nf => simp only [Rel] at h; subst h; exact ⟨rfl, rfl⟩
  case ifc => obtain ⟨_, e, _⟩ := h; subst e; exact ⟨rfl, rfl⟩
  case ni => simp only [Rel] at h; subst h; exact ⟨rfl, rfl⟩
theorem ones_rel {r : Rho} : ∀ {l : AV} {vs : List Value}, allOne l = true → RelL r l vs → ∀ v ∈ vs, v.oneCell' = true := by
  intro l
  induction l with
  | nil => exact fun _ h => by simp only [RelL] at h; subst h; simp
  | cons x l _ ih =>
    intro vs ha h
    obtain ⟨v, vs, rfl, h1, h2⟩ := h
    obtain ⟨a1, a2⟩ := allOne_cons ha
    intro u hu
    rcases List.mem_cons.1 hu with rfl | hu
    · exact (one_rel a1 h1).1
    · exact ih a2 h2 u hu
  | _ => exact fun _ h => by simp [RelL] at h
/-- A value's cells. -/
theorem flat_rel {r : Rho} {x : AV} {v : Value} (h : allOne (AV.flat x) = true) (hr : Rel r x v) : RelL r (AV.flat x) v.cells.toList := by
  by_cases hx : AV.isOne x = true
  · have e : AV.flat x = .cons x .nil := by cases x <;> first | rfl | cases hx
    rw [e, (one_rel hx hr).2]
    exact ⟨v, [], rfl, hr, rfl⟩
  · cases x
    case agg l =>
      obtain ⟨a, e, h1⟩ := hr
      subst e
      exact h1
    case u => cases h
    case nil => cases h
    case cons => cases h
    case tup => cases h
    case y => cases h
    all_goals exact absurd rfl hx

section
variable {P : Program} {NG : Env} {B0 N : Nat} {C : CallE → Prop} {o : Oper} {E : Fr → St → Prop}
/-- A state with a new row. -/
noncomputable def St.new (s : St) (n : Nat) (z : AV) : St := .mk (Hp.put s.h s.n (.rw (Cs.putL z 0 (Cs.mk n)))) (Nat.succ s.n)
theorem Ct.newB {n : Nat} {z : AV} {s : St} {f : Nat → St → K → R} (h : Ct (f s.n (s.new n z)) E) : Ct (fun k => Go.Proofs.YtenpbpgoglepfaaGreatDoor.newB n z s fun b s => f b s k) E :=
  Ct.withSt (s := s) (f := fun h b k => Go.Proofs.YtenpbpgoglepfaaGreatDoor.strictN b fun b => ifB (Nat.blt b 65536) (f b (.mk (Hp.put h b (.rw (Cs.putL z 0 (Cs.mk n)))) (Nat.succ b)) k) .bad) (Ct.strictN (Ct.must fun _ => h))
theorem new_ok {r : Rho} {s : St} {w : World} (h : Sim B0 r s w) {z : AV} {cs : Array Value} (t : TypeId) (n : Nat) (hz : RelL r z cs.toList) :
    Sim B0 (r.push w.heap.size 0 cs.size) (s.new n z) (w.alloc (.cells cs t)) ∧ Stp r s w (r.push w.heap.size 0 cs.size) (s.new n z) (w.alloc (.cells cs t)) := by
  have hle := r.le_push h.lt w.heap.size 0 cs.size
  obtain ⟨p1, p2, p3⟩ := r.push_at w.heap.size 0 cs.size
  refine h.new (.cells cs t) (.rw (Cs.putL z 0 (Cs.mk n))) cs.size ⟨⟨r.push_n _ _ _, cs, t, (0, 0), ?_, p3.symm, ?_, .inl rfl⟩, ?_⟩
  · rw [p1]; show (w.heap.push _)[w.heap.size]? = _; simp
  · rw [p2]; exact Cells.new (hz.le hle)
  · rw [p1]; exact h.low
theorem new_p {r : Rho} {s : St} {w : World} (h : Sim B0 r s w) (t : Nat) : Rel (r.push w.heap.size 0 t) (.p s.n 0) (.pointer (some ⟨w.heap.size, 0, none⟩)) := by
  obtain ⟨p1, p2, p3⟩ := r.push_at w.heap.size 0 t
  rw [h.n]
  exact ⟨r.push_n _ _ _, by rw [p1, p2]⟩
/-- A type's zero cells. -/
noncomputable def zB (P : Program) (t : Nat) (z : AV) : Bool := match P.info? t with | some i => (match i.zero with | some v => cLB v.cells.toList z | none => false) | none => false
theorem zB_eq {t : Nat} {z : AV} (h : zB P t z = true) : ∃ v, (∀ w, (zeroValue t).run P w = .ok v w) ∧ ∀ r, RelL r z v.cells.toList := by
  unfold zB at h
  split at h
  · rename_i i hi
    split at h
    · rename_i v hv
      refine ⟨v, fun w => ?_, fun r => cLB_rel r h⟩
      simp only [zeroValue, Sem.run_bind, run_info hi, Result.andThen_ok, hv, Sem.run_pure]
    · cases h
  · cases h
noncomputable def okAlc (P : Program) (NG N : Nat) (o : Oper) (n : Nat) (z : AV) (d : D) : Bool := dB o.dst d && (match o.op with | .alloc t => zB P t z | _ => false)
theorem snd_alc {n : Nat} {z : AV} {d : D} (h : okAlc P NG N o n z d = true) : Snd P NG B0 N C o (.alc n z d) := fun c _ fr s => by
  simp only [okAlc, Bool.and_eq_true] at h
  obtain ⟨hd, h⟩ := h
  show Ct (hAlc n z d c fr s) _
  unfold hAlc
  refine Ct.newB (Ct.fin (do_val hd fun r w a hb hs hf => ?_))
  split at h
  · rename_i t e'
    obtain ⟨v, hv, hz⟩ := zB_eq h
    obtain ⟨s1, s2⟩ := new_ok hs t n (hz r)
    refine ⟨_, _, _, ?_, new_p hs v.cells.size, s1, s2⟩
    rw [ex_alloc e']
    refine run_v ?_
    simp only [Instr.alloc, Sem.run_bind, hv, Result.andThen_ok, newVar, newRow, run_newObj_alloc, Sem.run_pure]
  · cases h
noncomputable def okBox (P : Program) (NG N : Nat) (o : Oper) (n : Nat) (x : X) (d : D) : Bool := dB o.dst d && (match o.op with | .box t p => xB NG N p x | _ => false)
theorem snd_box {n : Nat} {x : X} {d : D} (h : okBox P NG N o n x d = true) : Snd P NG B0 N C o (.box n x d) := fun c _ fr s => by
  simp only [okBox, Bool.and_eq_true] at h
  obtain ⟨hd, h⟩ := h
  show Ct (hBox n x d c fr s) _
  unfold hBox
  refine Ct.must fun ha => Ct.newB (Ct.fin (do_val hd fun r w a hb hs hf => ?_))
  split at h
  · rename_i t p e'
    have h1 := flat_rel ha (xB_rel h hb hf)
    obtain ⟨s1, s2⟩ := new_ok hs t n h1
    refine ⟨_, _, _, ?_, new_p hs (a.eval p).cells.size, s1, s2⟩
    rw [ex_box e']
    refine run_v ?_
    simp only [Instr.box, newVar, newRow, Sem.run_bind, run_newObj_alloc, Result.andThen_ok, Sem.run_pure]
  · cases h
end
end Go.Proofs.YtenpbpgoglepfaaGreatDoor
namespace Go.Proofs.YtenpbpgoglepfaaGreatDoor
open Go.RowKit
set_option linter.unusedVariables false

section
variable {P : Program} {NG : Env} {B0 N : Nat} {C : CallE → Prop} {o : Oper} {E : Fr → St → Prop}
theorem cell_at {w : World} {b x : Nat} {cs : Array Value} {t : TypeId} {f : Nat × Nat} (h : w.heap[b]? = some (.cells cs t f)) : w.cell? ⟨b, x, none⟩ = cs[x]? := by
  simp [World.cell?, h]
theorem Cs.getL_succ (c : Cs) (n o : Nat) : Cs.getL c (n + 1) o = .cons (Cs.get c o) (Cs.getL c n (o + 1)) := rfl
theorem getL_rel {r : Rho} {c : Cs} {o0 : Nat} {cs : Array Value} (h : Cells r c o0 cs) : ∀ (n o : Nat), allOne (Cs.getL c n o) = true → ∃ vs : List Value, RelL r (Cs.getL c n o) vs ∧ vs.length = n ∧ ∀ j, j < n → ∃ v, vs[j]? = some v ∧ cs[o0 + o + j]? = some v
  | 0, o, _ => ⟨[], rfl, rfl, fun j hj => absurd hj (Nat.not_lt_zero j)⟩
  | n + 1, o, ha => by
    rw [Cs.getL_succ] at ha ⊢
    obtain ⟨a1, a2⟩ := allOne_cons ha
    obtain ⟨vs, h1, h2, h3⟩ := getL_rel h n (o + 1) a2
    obtain ⟨v, hv, hr⟩ := h o (fun e => by rw [e] at a1; cases a1)
    refine ⟨v :: vs, ⟨v, vs, rfl, hr, h1⟩, by rw [List.length_cons, h2], fun j hj => ?_⟩
    cases j with
    | zero => exact ⟨v, rfl, hv⟩
    | succ j =>
      obtain ⟨u, u1, u2⟩ := h3 j (by omega)
      exact ⟨u, u1, by rw [← u2]; congr 1; omega⟩
theorem row_of {r : Rho} {s : St} {w : World} {b : Nat} {c : Cs} (hs : Sim B0 r s w) (h : Hp.get s.h b = .ro c ∨ Hp.get s.h b = .rw c) : RowOk r w b c := by
  have := hs.ok b
  rcases h with h | h
  · rw [h] at this; exact this.1
  · rw [h] at this; exact this.1
noncomputable def okLd1 (P : Program) (NG N : Nat) (o : Oper) (x : X) (d : D) : Bool := dB o.dst d && (match o.op with | .load t p => xB NG N p x && aggB P t false | _ => false)
theorem snd_ld1 {x : X} {d : D} (h : okLd1 P NG N o x d = true) : Snd P NG B0 N C o (.ld1 x d) := fun c _ fr s => by
  simp only [okLd1, Bool.and_eq_true] at h
  obtain ⟨hd, h⟩ := h
  show Ct (hLd1 x d c fr s) _
  unfold hLd1
  refine Ct.onP fun b q e => Ct.onR fun cs hcs => Ct.isU fun hu => Ct.fin (do_pure hd fun r w a hb hs hf => ?_)
  split at h
  · rename_i t p e'
    simp only [Bool.and_eq_true] at h
    have h1 := xB_rel h.1 hb hf
    rw [e] at h1
    simp only [Rel] at h1
    obtain ⟨_, rcs, t', f', hh, hz, hc, hfz⟩ := row_of hs hcs
    obtain ⟨v, hv, hr⟩ := hc q hu
    refine ⟨v, ?_, hr⟩
    rw [ex_load e', h1.2]
    refine run_v ?_
    simp only [Instr.loadAt, Instr.sureAddr, Sem.run_bind, Sem.run_pure, Result.andThen_ok, loadVar, aggB_eq h.2, Bool.false_eq_true, if_false, run_load, cell_at hh, hv]
  · cases h
noncomputable def okLdn (P : Program) (NG N : Nat) (o : Oper) (n : Nat) (x : X) (d : D) : Bool := dB o.dst d && (match o.op with | .load t p => xB NG N p x && aggB P t true && szB P t n | _ => false)
theorem snd_ldn {n : Nat} {x : X} {d : D} (h : okLdn P NG N o n x d = true) : Snd P NG B0 N C o (.ldn n x d) := fun c _ fr s => by
  simp only [okLdn, Bool.and_eq_true] at h
  obtain ⟨hd, h⟩ := h
  show Ct (hLdn n x d c fr s) _
  unfold hLdn
  refine Ct.onP fun b q e => Ct.onR fun cs hcs => Ct.must fun ha => Ct.fin (do_pure hd fun r w a hb hs hf => ?_)
  split at h
  · rename_i t p e'
    simp only [Bool.and_eq_true] at h
    have h1 := xB_rel h.1.1 hb hf
    rw [e] at h1
    simp only [Rel] at h1
    obtain ⟨_, rcs, t', f', hh, hz, hc, hfz⟩ := row_of hs hcs
    obtain ⟨vs, v1, v2, v3⟩ := getL_rel hc n q ha
    refine ⟨.agg vs.toArray, ?_, ⟨_, rfl, v1⟩⟩
    rw [ex_load e', h1.2]
    refine run_v ?_
    have hl : (loadCells ⟨r.blk b, r.off b + q, none⟩ n).run P w = .ok vs.toArray w := by
      rw [← v2]
      refine run_loadCells_list w _ vs fun j v hj => ?_
      rw [Addr.add_mid, cell_at hh]
      obtain ⟨u, u1, u2⟩ := v3 j (by rw [← v2]; exact (List.getElem?_eq_some_iff.1 hj).1)
      rw [u2, ← u1, hj]
    simp only [Instr.loadAt, Instr.sureAddr, Sem.run_bind, Sem.run_pure, Result.andThen_ok, loadVar, aggB_eq h.1.2, if_true, run_size (szB_eq h.2), hl]
  · cases h
/-- Behind a row of stores. -/
theorem setCells_at (b : Nat) (t : TypeId) (f : Nat × Nat) : ∀ (vs : List Value) (q : Nat) (w : World) (cs : Array Value), w.heap[b]? = some (.cells cs t f) → q + vs.length ≤ cs.size →
    ∃ cs' : Array Value, (w.setCells b q vs).heap[b]? = some (.cells cs' t f) ∧ cs'.size = cs.size ∧ (∀ j, j < vs.length → cs'[q + j]? = vs[j]?) ∧ (∀ i, (i < q ∨ q + vs.length ≤ i) → cs'[i]? = cs[i]?) ∧
      (∀ x, x ≠ b → (w.setCells b q vs).heap[x]? = w.heap[x]?) ∧ (w.setCells b q vs).heap.size = w.heap.size ∧ (w.setCells b q vs).os = w.os ∧ (w.setCells b q vs).tape = w.tape ∧ (w.setCells b q vs).output = w.output
  | [], q, w, cs, h, _ => ⟨cs, h, rfl, fun j hj => absurd hj (Nat.not_lt_zero j), fun _ _ => rfl, fun _ _ => rfl, rfl, rfl, rfl, rfl⟩
  | v :: vs, q, w, cs, h, hq => by
    simp only [List.length_cons] at hq
    have h0 : (w.setCell ⟨b, q, none⟩ v).heap[b]? = some (.cells (cs.setIfInBounds q v) t f) := by
      simp [World.setCell, Array.getElem?_modify, h]
    obtain ⟨cs', k1, k2, k3, k4, k5, k6, k7, k8, k9⟩ := setCells_at b t f vs (q + 1) (w.setCell ⟨b, q, none⟩ v) _ h0 (by simp; omega)
    refine ⟨cs', k1, by rw [k2]; simp, fun j hj => ?_, fun i hi => ?_, fun x hx => ?_, ?_, k7, k8, k9⟩
    · cases j with
      | zero =>
        rw [Nat.add_zero, k4 q (by omega)]
        simp only [Array.getElem?_setIfInBounds, if_true, List.getElem?_cons_zero]
        rw [if_pos (by omega)]
      | succ j =>
        rw [List.getElem?_cons_succ, ← k3 j (by simp only [List.length_cons] at hj; omega)]
        congr 1
        omega
    · simp only [List.length_cons] at hi
      rw [k4 i (by omega), Array.getElem?_setIfInBounds]
      rw [if_neg (by omega)]
    · show ((w.setCell ⟨b, q, none⟩ v).setCells b (q + 1) vs).heap[x]? = _
      rw [k5 x hx]
      simp [World.setCell, Array.getElem?_modify, Ne.symm hx]
    · show ((w.setCell ⟨b, q, none⟩ v).setCells b (q + 1) vs).heap.size = _
      rw [k6]
      simp [World.setCell]
/-- Cells laid over a row. -/
theorem put_ok {r : Rho} {s : St} {w : World} (hs : Sim B0 r s w) {b q : Nat} {c : Cs} (hb : Hp.get s.h b = .rw c) {l : AV} {vs : List Value} (hl : RelL r l vs) (hroom : ∀ j, j < vs.length → ∃ cs t f v, w.heap[r.blk b]? = some (.cells cs t f) ∧ cs[r.off b + q + j]? = some v) :
    Sim B0 r (.mk (Hp.put s.h b (.rw (Cs.putL l q c))) s.n) (w.setCells (r.blk b) (r.off b + q) vs) ∧ Stp r s w r (.mk (Hp.put s.h b (.rw (Cs.putL l q c))) s.n) (w.setCells (r.blk b) (r.off b + q) vs) := by
  obtain ⟨hbn, cs, t, f, hh, hz, hc, hfz⟩ := row_of hs (.inr hb)
  have hlow : B0 ≤ r.blk b := hs.live_ge (b := b) (by rw [hb]; exact trivial)
  by_cases hv : vs.length = 0
  · have : vs = [] := List.length_eq_zero_iff.1 hv
    subst this
    have e : Cs.putL l q c = c := by
      cases l <;> first | rfl | (simp [RelL] at hl)
    rw [e]
    exact hs.wrote b (.rw c) (by rw [hb]; exact trivial) ⟨⟨hbn, cs, t, f, hh, hz, hc, hfz⟩, hlow⟩ rfl rfl rfl (Nat.le_refl _) (fun _ _ _ => rfl)
  · have hsz : r.off b + q + vs.length ≤ cs.size := by
      obtain ⟨cs1, t1, f1, v, e1, e2⟩ := hroom (vs.length - 1) (by omega)
      rw [hh] at e1
      cases e1
      have := (Array.getElem?_eq_some_iff.1 e2).1
      omega
    obtain ⟨cs', k1, k2, k3, k4, k5, k6, k7, k8, k9⟩ := setCells_at (r.blk b) t f vs (r.off b + q) w cs hh hsz
    refine hs.wrote b _ (by rw [hb]; exact trivial) ⟨⟨hbn, cs', t, f, k1, by rw [k2, hz], ?_, by rw [k2]; exact hfz⟩, hlow⟩ k7 k8 k9 (by rw [k6]; exact Nat.le_refl _) (fun x _ hx => k5 x hx)
    exact hc.putL hl k3 (fun i hi => k4 _ (by omega))
/-- The stores of some cells. -/
theorem run_put {r : Rho} {w : World} {b q : Nat} {vs : List Value} {cs : Array Value} {t : TypeId} {f : Nat × Nat} (hh : w.heap[r.blk b]? = some (.cells cs t f)) (hfz : f.2 = 0 ∨ cs.size ≤ f.1) (hroom : ∀ j, j < vs.length → ∃ v, cs[r.off b + q + j]? = some v) (h1 : ∀ v ∈ vs, v.oneCell' = true) :
    (storeCells ⟨r.blk b, r.off b + q, none⟩ vs).run P w = .ok () (w.setCells (r.blk b) (r.off b + q) vs) := by
  have := run_storeCells_cells (P := P) (r.blk b) (r.off b + q) vs 0 w (fun j hj => by obtain ⟨v, hv⟩ := hroom j hj; rw [cell_at hh, Nat.add_zero, hv]; rfl) (fun j hj => by
      obtain ⟨v, hv⟩ := hroom j hj
      have := (Array.getElem?_eq_some_iff.1 hv).1
      obtain ⟨lo, hi⟩ := f
      simp only [World.frozen?, hh, Nat.add_zero, Bool.and_eq_false_iff, decide_eq_false_iff_not]
      rcases hfz with h | h
      · right; simp only at h; omega
      · left; simp only at h; omega) h1
  simpa using this
noncomputable def okSto (P : Program) (NG N : Nat) (o : Oper) (n : Nat) (x y : X) : Bool := o.dst.isNone && (match o.op with | .store t p q => xB NG N p x && xB NG N q y && szB P t n | _ => false)
theorem snd_sto {n : Nat} {x y : X} (h : okSto P NG N o n x y = true) : Snd P NG B0 N C o (.sto n x y) := fun c _ fr s => by
  simp only [okSto, Bool.and_eq_true, Option.isNone_iff_eq_none] at h
  obtain ⟨hd, h⟩ := h
  show Ct (hSto n x y c fr s) _
  unfold hSto
  refine Ct.onP fun b q e => Ct.onW fun cs hcs => Ct.must fun ha => Ct.must fun hn => Ct.must fun hg => Ct.fin (do_skip hd fun r w a hb hs hf => ?_)
  split at h
  · rename_i t p p' e'
    simp only [Bool.and_eq_true] at h
    have h1 := xB_rel h.1.1 hb hf
    have h2 := flat_rel ha (xB_rel h.1.2 hb hf)
    rw [e] at h1
    simp only [Rel] at h1
    have hlen := relL_len h2
    obtain rfl := Nat.eq_of_beq_eq_true hn
    obtain ⟨_, rcs, t', f', hh, hz, hc, hfz⟩ := row_of hs (.inr hcs)
    obtain ⟨vs, v1, v2, v3⟩ := getL_rel hc _ q hg
    have hroom : ∀ j, j < (a.eval p').cells.toList.length → ∃ cs t f v, w.heap[r.blk b]? = some (.cells cs t f) ∧ cs[r.off b + q + j]? = some v := fun j hj => by
      obtain ⟨u, _, u2⟩ := v3 j (by rw [hlen]; exact hj)
      exact ⟨_, _, _, u, hh, u2⟩
    obtain ⟨s1, s2⟩ := put_ok hs hcs h2 hroom
    refine ⟨_, r, ?_, s1, s2⟩
    rw [ex_store e', h1.2]
    refine run_u ?_
    have hcz : (a.eval p').cells.size = lenL (AV.flat (y.ev fr)) := by rw [hlen, Array.length_toList]
    simp only [Instr.storeAt, Instr.sureAddr, Sem.run_bind, Sem.run_pure, Result.andThen_ok, storeVar, run_size (szB_eq h.2), hcz, ne_eq, not_true_eq_false, if_false]
    exact run_put hh hfz (fun j hj => by obtain ⟨u, _, u2⟩ := v3 j (by rw [hlen]; exact hj); exact ⟨u, u2⟩) (ones_rel ha h2)
  · cases h
end
end Go.Proofs.YtenpbpgoglepfaaGreatDoor
namespace Go.Proofs.YtenpbpgoglepfaaGreatDoor
open Go.RowKit
set_option linter.unusedVariables false

/-- Parts laid over cells. -/
inductive Laid (fr : Fr) : List (Nat × Nat × X) → Cs → Cs → Prop
  | nil (c : Cs) : Laid fr [] c c
  | cons {o n : Nat} {x : X} {ps : List (Nat × Nat × X)} {c c' : Cs} (h1 : allOne (AV.flat (X.ev x fr)) = true) (h2 : lenL (AV.flat (X.ev x fr)) = n) (h : Laid fr ps (Cs.putL (AV.flat (X.ev x fr)) o c) c') : Laid fr ((o, n, x) :: ps) c c'
section
variable {P : Program} {NG : Env} {B0 N : Nat} {C : CallE → Prop} {o : Oper} {E : Fr → St → Prop}
theorem Ct.layP {fr : Fr} {f : Cs → K → R} : ∀ {ps : List (Nat × Nat × X)} {c : Cs}, (∀ c', Laid fr ps c c' → Ct (f c') E) → Ct (fun k => Go.Proofs.YtenpbpgoglepfaaGreatDoor.layP ps fr c fun c => f c k) E
  | [], c, h => h c (.nil c)
  | (o, n, x) :: ps, c, h => Ct.must (b := allOne (AV.flat (X.ev x fr))) fun h1 => Ct.must (b := Nat.beq (lenL (AV.flat (X.ev x fr))) n) fun h2 => Ct.layP fun c' hc => h c' (.cons h1 (Nat.eq_of_beq_eq_true h2) hc)
theorem foldSet (off : Nat) : ∀ (l : List Value) (k : Nat) (A : Array Value), ∃ A' : Array Value, (l.zipIdx k).foldl (fun (cs : Array Value) p => cs.setIfInBounds (off + p.2) p.1) A = A' ∧ A'.size = A.size ∧
    (∀ j, j < l.length → off + k + j < A.size → A'[off + k + j]? = l[j]?) ∧ ∀ i, (i < off + k ∨ off + k + l.length ≤ i) → A'[i]? = A[i]?
  | [], k, A => ⟨A, rfl, rfl, fun j hj => absurd hj (Nat.not_lt_zero j), fun _ _ => rfl⟩
  | v :: l, k, A => by
    obtain ⟨A', h1, h2, h3, h4⟩ := foldSet off l (k + 1) (A.setIfInBounds (off + k) v)
    refine ⟨A', h1, by rw [h2, Array.size_setIfInBounds], fun j hj hA => ?_, fun i hi => ?_⟩
    · cases j with
      | zero =>
        rw [Nat.add_zero, h4 _ (by omega), Array.getElem?_setIfInBounds, if_pos rfl, if_pos (by omega)]
        rfl
      | succ j =>
        rw [List.getElem?_cons_succ, ← h3 j (by simp only [List.length_cons] at hj; omega) (by rw [Array.size_setIfInBounds]; omega)]
        congr 1
        omega
    · simp only [List.length_cons] at hi
      rw [h4 i (by omega), Array.getElem?_setIfInBounds, if_neg (by omega)]
/-- The parts, as the machine has them. -/
inductive Parts (place : Nat → Option (Nat × Nat)) (tot : Nat) (r : Rho) (fr : Fr) : List (Nat × Value) → List (Nat × Nat × X) → Prop
  | nil : Parts place tot r fr [] []
  | cons {i o n : Nat} {v : Value} {x : X} {l : List (Nat × Value)} {ps : List (Nat × Nat × X)} (h1 : place i = some (o, n)) (h2 : Rel r (X.ev x fr) v) (h3 : o + n ≤ tot) (h : Parts place tot r fr l ps) : Parts place tot r fr ((i, v) :: l) ((o, n, x) :: ps)
theorem fill_ok {place : Nat → Option (Nat × Nat)} {tot : Nat} {r : Rho} {fr : Fr} : ∀ {l : List (Nat × Value)} {ps : List (Nat × Nat × X)} {c c' : Cs} {A : Array Value}, Parts place tot r fr l ps → Laid fr ps c c' → A.size = tot → Cells r c 0 A →
    ∃ A', Instr.fill place A l = some A' ∧ A'.size = tot ∧ Cells r c' 0 A' := by
  intro l
  induction l with
  | nil =>
    intro ps c c' A hp hl hA hc
    cases hp
    cases hl
    exact ⟨A, rfl, hA, hc⟩
  | cons p l ih =>
    intro ps c c' A hp hl hA hc
    cases hp with
    | @cons i o n v x _ ps h1 h2 h3 hp =>
      cases hl with
      | cons k1 k2 hl =>
        have hr := flat_rel k1 h2
        have hn : v.cells.size = n := by rw [← k2, relL_len hr, Array.length_toList]
        obtain ⟨A1, e1, e2, e3, e4⟩ := foldSet o v.cells.toList 0 A
        have hc1 : Cells r (Cs.putL (AV.flat (X.ev x fr)) o c) 0 A1 := hc.putL hr (fun j hj => by
            have hj' : j < n := by rw [← hn, ← Array.length_toList]; exact hj
            rw [Nat.zero_add, ← e3 j hj (by omega)]; rfl) (fun i hi => by
            rw [Array.length_toList, hn] at hi
            rw [Nat.zero_add]
            exact e4 i (by rw [Array.length_toList, hn]; omega))
        obtain ⟨A', f1, f2, f3⟩ := ih hp hl (e2.trans hA) hc1
        refine ⟨A', ?_, f2, f3⟩
        rw [Instr.fill, h1]
        have hcond : (decide (v.cells.size ≠ n) || decide (o + v.cells.size > A.size)) = false := by
          rw [hn, hA, Bool.or_eq_false_iff]
          exact ⟨by simp, by simpa using h3⟩
        simp only [hcond, Bool.false_eq_true, if_false]
        have : v.cells.zipIdx.foldl (fun cs (c, j) => cs.setIfInBounds (o + j) c) A = A1 := by
          rw [← e1, ← Array.foldl_toList, Array.toList_zipIdx]
        rw [this]
        exact f1
noncomputable def placeB (place : Nat → Option (Nat × Nat)) (tot NG N : Nat) : List (Nat × Operand) → List (Nat × Nat × X) → Bool
  | [], [] => true
  | (i, p) :: l, (o, n, x) :: ps => (match place i with | some (o', n') => Nat.beq o' o && Nat.beq n' n | none => false) && xB NG N p x && Nat.ble (o + n) tot && placeB place tot NG N l ps
  | _, _ => false
theorem placeB_ok {place : Nat → Option (Nat × Nat)} {tot : Nat} {r : Rho} {fr : Fr} {a : Act} (hb : Base NG r) (hf : FrR N r fr a) : ∀ {l : List (Nat × Operand)} {ps : List (Nat × Nat × X)}, placeB place tot NG N l ps = true → Parts place tot r fr (l.map fun p => (p.1, a.eval p.2)) ps
  | [], [], _ => .nil
  | (i, p) :: l, (o, n, x) :: ps, h => by
    simp only [placeB, Bool.and_eq_true] at h
    obtain ⟨⟨⟨h1, h2⟩, h3⟩, h4⟩ := h
    split at h1
    · rename_i o' n' e
      simp only [Bool.and_eq_true] at h1
      obtain rfl := Nat.eq_of_beq_eq_true h1.1
      obtain rfl := Nat.eq_of_beq_eq_true h1.2
      exact .cons e (xB_rel h2 hb hf) (Nat.le_of_ble_eq_true h3) (placeB_ok hb hf h4)
    · cases h1
  | [], _ :: _, h => by cases h
  | _ :: _, [], h => by cases h
theorem getL_all {r : Rho} {c : Cs} {A : Array Value} (h : Cells r c 0 A) : ∀ (n o : Nat), o + n = A.size → RelL r (Cs.getL c n o) (A.toList.drop o)
  | 0, o, e => by rw [List.drop_eq_nil_of_le (by rw [Array.length_toList]; omega)]; exact (show RelL r .nil [] from rfl)
  | n + 1, o, e => by
    rw [Cs.getL_succ, List.drop_eq_getElem_cons (by rw [Array.length_toList]; omega)]
    refine ⟨_, _, rfl, ?_, getL_all h n (o + 1) (by omega)⟩
    by_cases hu : Cs.get c o = .u
    · rw [hu]; trivial
    · obtain ⟨v, hv, hr⟩ := h o hu
      rw [Nat.zero_add] at hv
      have : A.toList[o]'(by rw [Array.length_toList]; omega) = v := by
        have := (Array.getElem?_eq_some_iff.1 hv).2
        rw [← this]
        rfl
      rw [this]
      exact hr
/-- The places of a struct's fields. -/
noncomputable def placeS (P : Program) (fs : Array Field) : Nat → Option (Nat × Nat) := fun i => match fs[i]? with | some f => (match P.info? f.type with | some q => some (f.offset, q.size) | none => none) | none => none
theorem run_places (fs : Array Field) (hf : fs.all (fun f => (P.info? f.type).isSome) = true) (w : World) : ∃ ps : Array (Nat × Nat), (fs.mapM fun f => do pure (f.offset, ← sizeOf f.type) : Sem (Array (Nat × Nat))).run P w = .ok ps w ∧ ∀ i, ps[i]? = placeS P fs i := by
  have key : ∀ l : List Field, (∀ f ∈ l, (P.info? f.type).isSome = true) → (l.mapM (fun f => do pure (f.offset, ← sizeOf f.type)) : Sem (List (Nat × Nat))).run P w = .ok (l.map fun f => (f.offset, ((P.info? f.type).map (·.size)).getD 0)) w := by
    intro l
    induction l with
    | nil => intro _; rfl
    | cons f l ih =>
      intro h
      have h0 := h f (by simp)
      rcases hq : P.info? f.type with _ | q
      · rw [hq] at h0; cases h0
      · have hsz : (P.info? f.type).map (·.size) = some q.size := by rw [hq]; rfl
        rw [List.mapM_cons]
        simp only [Sem.run_bind, run_size hsz, Result.andThen_ok, Sem.run_pure, ih (fun g hg => h g (by simp [hg])), List.map_cons, hq, Option.map_some, Option.getD_some]
  have h1 := key fs.toList (fun f hf' => by
    have := Array.all_eq_true_iff_forall_mem.1 hf f (by simpa using hf')
    exact this)
  refine ⟨(fs.toList.map fun f => (f.offset, ((P.info? f.type).map (·.size)).getD 0)).toArray, ?_, fun i => ?_⟩
  · rw [Array.mapM_eq_mapM_toList, Sem.run_map, h1]; rfl
  · simp only [List.getElem?_toArray, List.getElem?_map, Array.getElem?_toList, placeS]
    rcases hfi : fs[i]? with _ | f
    · rfl
    · have hm : (P.info? f.type).isSome = true := Array.all_eq_true_iff_forall_mem.1 hf f (Array.mem_of_getElem? hfi)
      rcases hq : P.info? f.type with _ | q
      · rw [hq] at hm; cases hm
      · simp [hq]
noncomputable def okBld (P : Program) (NG N : Nat) (o : Oper) (n : Nat) (z : AV) (ps : List (Nat × Nat × X)) (d : D) : Bool := dB o.dst d && (match o.op with
  | .build t l => zB P t z && Nat.beq (lenL z) n && (match P.underlying t with
    | some (.struct fs) => fs.all (fun f => (P.info? f.type).isSome) && placeB (placeS P fs) n NG N l.toList ps
    | some (.array _ el) => (match P.info? el with | some q => placeB (fun i => some (i * q.size, q.size)) n NG N l.toList ps | none => false)
    | _ => false)
  | _ => false)
theorem snd_bld {n : Nat} {z : AV} {ps : List (Nat × Nat × X)} {d : D} (h : okBld P NG N o n z ps d = true) : Snd P NG B0 N C o (.bld n z ps d) := fun c _ fr s => by
  simp only [okBld, Bool.and_eq_true] at h
  obtain ⟨hd, h⟩ := h
  show Ct (hBld n z ps d c fr s) _
  unfold hBld
  refine Ct.layP fun cs hlaid => Ct.fin (do_pure hd fun r w a hb hs hf => ?_)
  split at h
  case h_2 => cases h
  rename_i t l e'
  simp only [Bool.and_eq_true] at h
  obtain ⟨⟨hz, hn⟩, h⟩ := h
  obtain ⟨v, hv, hzr⟩ := zB_eq hz
  obtain rfl := Nat.eq_of_beq_eq_true hn
  have hsz : v.cells.size = lenL z := by rw [relL_len (hzr r), Array.length_toList]
  have hc0 : Cells r (Cs.putL z 0 (Cs.mk (lenL z))) 0 v.cells := Cells.new (hzr r)
  have hmap : (l.map fun x => match x with | (i, x) => (i, a.eval x)).toList = l.toList.map fun p => (p.1, a.eval p.2) := by rw [Array.toList_map]
  have fin : ∀ {place : Nat → Option (Nat × Nat)}, placeB place (lenL z) NG N l.toList ps = true → ∃ A', Instr.fill place v.cells (l.map fun x => match x with | (i, x) => (i, a.eval x)).toList = some A' ∧ Rel r (.agg (Cs.getL cs (lenL z) 0)) (.agg A') := fun hp => by
    rw [hmap]
    obtain ⟨A', f1, f2, f3⟩ := fill_ok (placeB_ok hb hf hp) hlaid hsz hc0
    exact ⟨A', f1, ⟨A', rfl, by have := getL_all f3 (lenL z) 0 (by omega); rwa [List.drop_zero] at this⟩⟩
  split at h
  · rename_i fs hu
    simp only [Bool.and_eq_true] at h
    obtain ⟨A', f1, f2⟩ := fin h.2
    obtain ⟨pl, p1, p2⟩ := run_places fs h.1 w
    refine ⟨.agg A', ?_, f2⟩
    rw [ex_build e']
    refine run_v ?_
    have : (fun i => pl[i]?) = placeS P fs := funext p2
    simp only [Instr.build, Sem.run_bind, hv, Result.andThen_ok, run_und hu, p1, this, f1, Sem.run_pure]
  · rename_i q el hu
    split at h
    · rename_i q hq
      obtain ⟨A', f1, f2⟩ := fin h
      refine ⟨.agg A', ?_, f2⟩
      rw [ex_build e']
      refine run_v ?_
      have hsz : (P.info? el).map (·.size) = some q.size := by rw [hq]; rfl
      simp only [Instr.build, Sem.run_bind, hv, Result.andThen_ok, run_und hu, run_size hsz, f1, Sem.run_pure]
    · cases h
  · cases h
end
end Go.Proofs.YtenpbpgoglepfaaGreatDoor
namespace Go.Proofs.YtenpbpgoglepfaaGreatDoor
open Go.RowKit
set_option linter.unusedVariables false

theorem relL_of {r : Rho} : ∀ {l : AV} {vs : List Value}, IsL l → lenL l = vs.length → (∀ j v, vs[j]? = some v → Rel r (nthL l j) v) → RelL r l vs := by
  intro l vs h
  induction h generalizing vs with
  | nil =>
    intro e _
    have : vs = [] := List.length_eq_zero_iff.1 e.symm
    subst this
    rfl
  | cons x h ih =>
    intro e k
    rw [lenL_cons] at e
    cases vs with
    | nil => cases e
    | cons v vs => exact ⟨v, vs, rfl, k 0 v rfl, ih (by simpa using e) fun j u hu => k (j + 1) u hu⟩
theorem app_isL {l m : AV} (h : IsL l) (k : IsL m) : IsL (AV.app l m) := by
  induction h with
  | nil => exact k
  | cons x h ih => exact .cons x ih
theorem app_len {l m : AV} (h : IsL l) : lenL (AV.app l m) = lenL l + lenL m := by
  induction h with
  | nil => rw [show AV.app .nil m = m from rfl]; show lenL m = 0 + lenL m; omega
  | @cons x l h ih =>
    have e : AV.app (.cons x l) m = .cons x (AV.app l m) := rfl
    rw [e, lenL_cons, lenL_cons, ih]
    omega
theorem app_rel {r : Rho} {l m : AV} {us vs : List Value} (h : RelL r l us) (k : RelL r m vs) : RelL r (AV.app l m) (us ++ vs) := by
  have hl := relL_isL h
  induction hl generalizing us with
  | nil => simp only [RelL] at h; subst h; exact k
  | cons x hl ih =>
    obtain ⟨v, vs', rfl, h1, h2⟩ := h
    exact ⟨v, vs' ++ vs, rfl, h1, ih h2⟩
theorem repL_rel {r : Rho} {z : AV} {cs : List Value} (h : RelL r z cs) : ∀ n, RelL r (repL n z) (List.replicate n cs).flatten
  | 0 => rfl
  | n + 1 => by
    rw [List.replicate_succ, List.flatten_cons]
    exact app_rel h (repL_rel h n)
theorem made_flat (cs : Array Value) : ∀ n, (madeCells cs (n * cs.size)).toList = (List.replicate n cs.toList).flatten := by
  intro n
  apply List.ext_getElem?
  intro j
  have key : ∀ n j, ((List.replicate n cs.toList).flatten)[j]? = if j < n * cs.size then cs[j % cs.size]? else none := by
    intro n
    induction n with
    | zero => intro j; simp
    | succ n ih =>
      intro j
      rw [List.replicate_succ, List.flatten_cons, List.getElem?_append]
      by_cases hj : j < cs.size
      · rw [if_pos (by rw [Array.length_toList]; exact hj), if_pos (by rw [Nat.add_mul]; omega), Nat.mod_eq_of_lt hj, Array.getElem?_toList]
      · rw [if_neg (by rw [Array.length_toList]; exact hj), ih, Array.length_toList]
        have e : (j - cs.size) % cs.size = j % cs.size := by
          rw [Nat.mod_eq_sub_mod (by omega : j ≥ cs.size)]
        rw [e]
        by_cases hh : j - cs.size < n * cs.size
        · rw [if_pos hh, if_pos (by rw [Nat.add_mul]; omega)]
        · rw [if_neg hh, if_neg (by rw [Nat.add_mul]; omega)]
  rw [key, Array.getElem?_toList, madeCells, Array.getElem?_map]
  by_cases hj : j < n * cs.size
  · rw [if_pos hj]
    have hz : 0 < cs.size := by
      rcases Nat.eq_zero_or_pos cs.size with h | h
      · rw [h] at hj; omega
      · exact h
    have hm := Nat.mod_lt j hz
    rw [Array.getElem?_range, if_pos hj, Option.map_some, Array.getElem?_eq_getElem hm, getElem!_pos cs _ hm]
  · rw [if_neg hj, Array.getElem?_range, if_neg hj]
    rfl

section
variable {P : Program} {NG : Env} {B0 N : Nat} {C : CallE → Prop} {o : Oper} {E : Fr → St → Prop}
theorem new_row {r : Rho} {s : St} {w : World} (h : Sim B0 r s w) {c : Cs} {cs : Array Value} (t : TypeId) (f : Nat × Nat) (hc : Cells r c 0 cs) (hf : f.2 = 0 ∨ cs.size ≤ f.1) :
    Sim B0 (r.push w.heap.size 0 cs.size) (.mk (Hp.put s.h s.n (.rw c)) (Nat.succ s.n)) (w.alloc (.cells cs t f)) ∧ Stp r s w (r.push w.heap.size 0 cs.size) (.mk (Hp.put s.h s.n (.rw c)) (Nat.succ s.n)) (w.alloc (.cells cs t f)) := by
  have hle := r.le_push h.lt w.heap.size 0 cs.size
  obtain ⟨p1, p2, p3⟩ := r.push_at w.heap.size 0 cs.size
  refine h.new (.cells cs t f) (.rw c) cs.size ⟨⟨r.push_n _ _ _, cs, t, f, ?_, p3.symm, ?_, hf⟩, ?_⟩
  · rw [p1]; show (w.heap.push _)[w.heap.size]? = _; simp
  · rw [p2]; exact hc.le hle
  · rw [p1]; exact h.low
theorem new_s {r : Rho} {s : St} {w : World} (h : Sim B0 r s w) {t z n c cp : Nat} {ex : Bool} (h1 : n ≤ cp) (h2 : cp ≤ c) (h3 : ex = true → c = cp) (h4 : c * z ≤ t) : Rel (r.push w.heap.size 0 t) (.s s.n 0 z n cp ex) (.slice (some ⟨w.heap.size, 0, none⟩) n c) := by
  obtain ⟨p1, p2, p3⟩ := r.push_at w.heap.size 0 t
  rw [h.n]
  exact ⟨r.push_n _ _ _, 0, c, by rw [p1], fun _ => by rw [p2], h2, h3, h1, by rw [p3]; omega⟩
noncomputable def okBls (P : Program) (NG N : Nat) (o : Oper) (z n : Nat) (zs : AV) (ps : List (Nat × Nat × X)) (d : D) : Bool := dB o.dst d && (match o.op with
  | .buildSlice t n' l => Nat.beq n' n && (match P.underlying t with
    | some (.slice el) => (match P.info? el with
      | some q => Nat.beq q.size z && Nat.ble (n * z) 16777216 && (match q.zero with | some v => Nat.beq v.cells.size z && cLB (madeCells v.cells (n * z)).toList zs && placeB (fun i => some (i * z, z)) (n * z) NG N l.toList ps | none => false)
      | none => false)
    | _ => false)
  | _ => false)
theorem snd_bls {z n : Nat} {zs : AV} {ps : List (Nat × Nat × X)} {d : D} (h : okBls P NG N o z n zs ps d = true) : Snd P NG B0 N C o (.bls z n zs ps d) := fun c _ fr s => by
  simp only [okBls, Bool.and_eq_true] at h
  obtain ⟨hd, h⟩ := h
  show Ct (hBls z n zs ps d c fr s) _
  unfold hBls
  refine Ct.layP fun cs hlaid => Ct.withSt (Ct.strictN (Ct.must fun _ => Ct.fin (do_val hd fun r w a hb hs hf => ?_)))
  split at h
  case h_2 => cases h
  rename_i t n' l e'
  simp only [Bool.and_eq_true] at h
  obtain ⟨hn, h⟩ := h
  obtain rfl := Nat.eq_of_beq_eq_true hn
  split at h
  case h_2 => cases h
  rename_i el hu
  split at h
  case h_2 => cases h
  rename_i q hq
  simp only [Bool.and_eq_true] at h
  obtain ⟨⟨hz, hle⟩, h⟩ := h
  obtain rfl := Nat.eq_of_beq_eq_true hz
  have hle := Nat.le_of_ble_eq_true hle
  split at h
  case h_2 => cases h
  rename_i v hv
  simp only [Bool.and_eq_true] at h
  obtain ⟨⟨hvs, hzs⟩, hp⟩ := h
  have hvs := Nat.eq_of_beq_eq_true hvs
  have hmap : (l.map fun x => match x with | (i, x) => (i, a.eval x)).toList = l.toList.map fun p => (p.1, a.eval p.2) := by rw [Array.toList_map]
  have hsz0 : (madeCells v.cells (n' * q.size)).size = n' * q.size := size_madeCells _ _
  obtain ⟨A', f1, f2, f3⟩ := fill_ok (placeB_ok hb hf hp) hlaid hsz0 (Cells.new (cLB_rel r hzs))
  obtain ⟨s1, s2⟩ := new_row hs el (0, 0) f3 (.inl rfl)
  refine ⟨.slice (some ⟨w.heap.size, 0, none⟩) n' n', _, _, ?_, new_s hs (Nat.le_refl _) (Nat.le_refl _) (fun _ => rfl) (by rw [f2]; exact Nat.le_refl _), s1, s2⟩
  rw [ex_buildSlice e']
  refine run_v ?_
  have hsz : (P.info? el).map (·.size) = some q.size := by rw [hq]; rfl
  have hzero : ∀ w, (zeroValue el).run P w = .ok v w := fun w => by simp only [zeroValue, Sem.run_bind, run_info hq, Result.andThen_ok, hv, Sem.run_pure]
  rw [← hmap] at f1
  have hlim : ¬ (n' * q.size > 2 ^ 24) := by
    have : (2 : Nat) ^ 24 = 16777216 := by decide
    omega
  simp only [Instr.buildSlice, Sem.run_bind, run_und hu, Result.andThen_ok, run_size hsz, if_neg hlim]
  by_cases h0 : n' * q.size = 0
  · simp only [h0, if_true, Sem.run_bind, Sem.run_pure, Result.andThen_ok]
    rw [h0] at f1
    have e0 : (Array.range 0).map (fun x => (#[] : Array Value)[x % (#[] : Array Value).size]!) = madeCells v.cells 0 := by simp [madeCells, Array.range_zero']
    rw [e0, f1]
    simp only [Sem.run_bind, newRow, run_newObj_alloc, Result.andThen_ok, Sem.run_pure]
  · simp only [if_neg h0, Sem.run_bind, hzero, Result.andThen_ok, Sem.run_pure]
    have e0 : (Array.range (n' * q.size)).map (fun x => v.cells[x % v.cells.size]!) = madeCells v.cells (n' * q.size) := rfl
    rw [e0, f1]
    simp only [Sem.run_bind, newRow, run_newObj_alloc, Result.andThen_ok, Sem.run_pure]
noncomputable def okMkm (o : Oper) (d : D) : Bool := dB o.dst d && (match o.op with | .makeMap t none => true | _ => false)
theorem snd_mkm {d : D} (h : okMkm o d = true) : Snd P NG B0 N C o (.mkm d) := fun c _ fr s => by
  simp only [okMkm, Bool.and_eq_true] at h
  obtain ⟨hd, h⟩ := h
  show Ct (hMkm d c fr s) _
  unfold hMkm
  refine Ct.withSt (Ct.strictN (Ct.must fun _ => Ct.fin (do_val hd fun r w a hb hs hf => ?_)))
  split at h
  · rename_i t e'
    obtain ⟨p1, p2, p3⟩ := r.push_at w.heap.size 0 0
    obtain ⟨s1, s2⟩ := hs.new (.map #[] 0) (.mp .nil) 0 ⟨r.push_n _ _ _, by rw [p1]; exact hs.low, #[], 0, by rw [p1]; show (w.heap.push _)[w.heap.size]? = _; simp, rfl, MapKept.stamped_empty 0⟩
    refine ⟨.map (some w.heap.size), _, _, ?_, ?_, s1, s2⟩
    · rw [ex_makeMap e']
      exact run_v rfl
    · rw [hs.n]
      exact ⟨r.push_n _ _ _, by rw [p1]⟩
  · cases h
noncomputable def okMks (P : Program) (NG N : Nat) (o : Oper) (z : Nat) (zs : AV) (x y : X) (d : D) : Bool := dB o.dst d && (match o.op with
  | .makeSlice t p p' => xB NG N p x && xB NG N p' y && (match P.underlying t with
    | some (.slice el) => (match P.info? el with
      | some q => Nat.beq q.size z && Nat.ble 1 z && Nat.ble q.bytes 1000000 && (match q.zero with | some v => Nat.beq v.cells.size z && cLB v.cells.toList zs | none => false)
      | none => false)
    | _ => false)
  | _ => false)
theorem snd_mks {z : Nat} {zs : AV} {x y : X} {d : D} (h : okMks P NG N o z zs x y d = true) : Snd P NG B0 N C o (.mks z zs x y d) := fun c _ fr s => by
  simp only [okMks, Bool.and_eq_true] at h
  obtain ⟨hd, h⟩ := h
  show Ct (hMks z zs x y d c fr s) _
  unfold hMks
  refine Ct.onI fun t1 i1 e1 => Ct.natI fun m hm => Ct.onI fun t2 i2 e2 => Ct.natI fun n hn => Ct.must fun hmn => Ct.must fun hlim => Ct.newB (Ct.fin (do_val hd fun r w a hb hs hf => ?_))
  subst hm hn
  have hmn := Nat.le_of_ble_eq_true hmn
  have hlim := Nat.le_of_ble_eq_true hlim
  split at h
  case h_2 => cases h
  rename_i t p p' e'
  simp only [Bool.and_eq_true] at h
  obtain ⟨⟨hx, hy⟩, h⟩ := h
  have h1 := xB_rel hx hb hf
  have h2 := xB_rel hy hb hf
  rw [e1] at h1
  rw [e2] at h2
  simp only [Rel] at h1 h2
  split at h
  case h_2 => cases h
  rename_i el hu
  split at h
  case h_2 => cases h
  rename_i q hq
  simp only [Bool.and_eq_true] at h
  obtain ⟨⟨⟨hz, hz1⟩, hby⟩, h⟩ := h
  obtain rfl := Nat.eq_of_beq_eq_true hz
  have hz1 := Nat.le_of_ble_eq_true hz1
  have hby := Nat.le_of_ble_eq_true hby
  split at h
  case h_2 => cases h
  rename_i v hv
  simp only [Bool.and_eq_true] at h
  obtain ⟨hvs, hzs⟩ := h
  have hvs := Nat.eq_of_beq_eq_true hvs
  have hn : n ≤ 4096 := by
    have h3 : n * q.size ≤ 4096 := hlim
    have h4 : n * 1 ≤ n * q.size := Nat.mul_le_mul_left n hz1
    omega
  have hb2 : (q.bytes : Int) * (n : Int) ≤ 281474976710656 := by
    have h3 : q.bytes * n ≤ 1000000 * 4096 := Nat.mul_le_mul hby hn
    have h4 : ((q.bytes * n : Nat) : Int) ≤ 281474976710656 := by omega
    rwa [Int.natCast_mul] at h4
  have hrel : RelL r (repL n zs) (madeCells v.cells (n * q.size)).toList := by
    rw [← hvs, made_flat]
    exact repL_rel (cLB_rel r hzs) n
  obtain ⟨s1, s2⟩ := new_ok hs el (Nat.mul n q.size) hrel
  refine ⟨.slice (some ⟨w.heap.size, 0, none⟩) m n, _, _, ?_, ?_, s1, s2⟩
  · rw [ex_makeSlice e', h1, h2]
    refine run_v ?_
    have := run_make (P := P) w t el q v hu hq hv t1 t2 (m : Int) (n : Int) (by omega) (by omega) hb2 (by omega)
    simp only [Int.toNat_natCast] at this
    exact this
  · exact new_s hs hmn (Nat.le_refl _) (fun _ => rfl) (by rw [size_madeCells]; exact Nat.le_refl _)
end
end Go.Proofs.YtenpbpgoglepfaaGreatDoor
namespace Go.Proofs.YtenpbpgoglepfaaGreatDoor
open Go.RowKit
set_option linter.unusedVariables false

section
variable {P : Program} {NG : Env} {B0 N : Nat} {C : CallE → Prop} {o : Oper} {E : Fr → St → Prop}
/-- The cells of a slice. -/
def CellsOf (z : Nat) (v : AV) (s : St) (n : Nat) (l : AV) : Prop :=
  (v = .ns ∧ n = 0 ∧ l = .nil) ∨ ∃ b q cp ex, v = .s b q z n cp ex ∧ ((n = 0 ∧ l = .nil) ∨ (0 < n ∧ ∃ cs, (Hp.get s.h b = .ro cs ∨ Hp.get s.h b = .rw cs) ∧ l = Cs.getL cs (n * z) q ∧ allOne l = true))
theorem Ct.cellsS {z : Nat} {v : AV} {s : St} {f : Nat → AV → K → R} (h : ∀ n l, CellsOf z v s n l → Ct (f n l) E) : Ct (fun k => Go.Proofs.YtenpbpgoglepfaaGreatDoor.cellsS z v s fun n l => f n l k) E := by
  unfold Go.Proofs.YtenpbpgoglepfaaGreatDoor.cellsS
  refine Ct.isNs (fun _ => ?_) fun e => h 0 .nil (.inl ⟨e, rfl, rfl⟩)
  refine Ct.onS fun b q z' n cp ex e => Ct.must fun hz => ?_
  obtain rfl := Nat.eq_of_beq_eq_true hz
  cases n with
  | zero => exact h 0 .nil (.inr ⟨b, q, cp, ex, e, .inl ⟨rfl, rfl⟩⟩)
  | succ n =>
    refine Ct.onR (g := Hp.get s.h b) (f := fun cs k => ifB (allOne (Cs.getL cs (Nat.mul (n + 1) z) q)) (f (n + 1) (Cs.getL cs (Nat.mul (n + 1) z) q) k) .bad) fun cs hcs => Ct.must fun ha => h _ _ (.inr ⟨b, q, cp, ex, e, .inr ⟨Nat.succ_pos n, cs, hcs, rfl, ha⟩⟩)
/-- .. as the machine has them. -/
theorem cellsOf_rel {z n : Nat} {v l : AV} {x : Value} {r : Rho} {s : St} {w : World} (h : CellsOf z v s n l) (hs : Sim B0 r s w) (hr : Rel r v x) :
    allOne l = true ∧ ∃ (A : Option Addr) (c : Nat) (vs : List Value), x = .slice A n c ∧ RelL r l vs ∧ vs.length = n * z ∧ (∀ j u, vs[j]? = some u → ∃ y, A = some y ∧ w.cell? (y.add j) = some u) ∧ (0 < n → A ≠ none) := by
  rcases h with ⟨rfl, rfl, rfl⟩ | ⟨b, q, cp, ex, rfl, h⟩
  · simp only [Rel] at hr
    exact ⟨rfl, none, 0, [], hr, rfl, by simp, fun j u hj => by simp at hj, fun h => absurd h (Nat.lt_irrefl 0)⟩
  · obtain ⟨hb, x0, c0, hv, hx, _, _, hlc, _⟩ := hr
    rcases h with ⟨rfl, rfl⟩ | ⟨hn, cs, hcs, rfl, ha⟩
    · exact ⟨rfl, _, c0, [], hv, rfl, by simp, fun j u hj => by simp at hj, fun h => absurd h (Nat.lt_irrefl 0)⟩
    · obtain ⟨_, rcs, t', f', hh, hz, hc, hfz⟩ := row_of hs hcs
      obtain ⟨vs, v1, v2, v3⟩ := getL_rel hc _ q ha
      refine ⟨ha, _, c0, vs, hv, v1, v2, fun j u hj => ⟨_, rfl, ?_⟩, fun _ => by simp⟩
      rw [Addr.add_mid, cell_at hh, hx (Nat.lt_of_lt_of_le hn hlc)]
      obtain ⟨u', e1, e2⟩ := v3 j (by rw [← v2]; exact (List.getElem?_eq_some_iff.1 hj).1)
      rw [e2, ← e1, hj]
theorem lNats_rel {r : Rho} : ∀ {l : AV} {m : List Nat} {vs : List Value}, lNats l = some m → RelL r l vs → vs = m.map (fun (x : Nat) => Value.int .u8 (x : Int)) ∧ ∀ x ∈ m, x < 256 := by
  intro l
  induction l with
  | nil =>
    intro m vs h k
    simp only [lNats, Option.some.injEq] at h
    simp only [RelL] at k
    subst h k
    exact ⟨rfl, by simp⟩
  | cons x l _ ih =>
    intro m vs h k
    obtain ⟨v, vs, rfl, k1, k2⟩ := k
    unfold lNats at h
    split at h
    · rename_i heq; cases heq
    · rename_i y t heq
      cases heq
      split at h
      case isFalse => cases h
      rename_i hy
      have hy := blt_lt hy
      split at h
      · rename_i m' hm
        cases h
        obtain ⟨e1, e2⟩ := ih hm k2
        simp only [Rel] at k1
        subst k1 e1
        refine ⟨rfl, fun z hz => ?_⟩
        rcases List.mem_cons.1 hz with rfl | hz
        · exact hy
        · exact e2 z hz
      · cases h
    · cases h
  | _ => intro m vs h k; simp [RelL] at k
theorem push_toList (s : ByteArray) (b : UInt8) : (s.push b).data.toList = s.data.toList ++ [b] := by
  show (s.data.push b).toList = _
  rw [Array.toList_push]
theorem fold_bytes : ∀ (m : List Nat) (s : ByteArray), (∀ x ∈ m, x < 256) → ((m.map (fun (x : Nat) => (x : Int))).foldl (fun (r : ByteArray) (n : Int) => r.push (UInt8.ofNat n.toNat)) s).data.toList.map (fun b => b.toNat) = s.data.toList.map (fun b => b.toNat) ++ m
  | [], s, _ => by simp
  | x :: m, s, h => by
    rw [List.map_cons, List.foldl_cons, fold_bytes m _ (fun y hy => h y (by simp [hy])), push_toList, List.map_append, List.append_assoc]
    have hx := h x (by simp)
    have : (UInt8.ofNat (x : Int).toNat).toNat = x := by
      rw [Int.toNat_natCast, UInt8.toNat_ofNat']
      exact Nat.mod_eq_of_lt hx
    rw [List.map_singleton, this]
    rfl
noncomputable def okB2s (P : Program) (NG N : Nat) (o : Oper) (x : X) (d : D) : Bool := dB o.dst d && (match o.op with | .convert t u p => xB NG N p x && (match P.underlying t, P.underlying u with | some (.slice el), some .string => (match P.underlying el with | some (.int .u8) => true | _ => false) | _, _ => false) | _ => false)
theorem snd_b2s {x : X} {d : D} (h : okB2s P NG N o x d = true) : Snd P NG B0 N C o (.b2s x d) := fun c _ fr s => by
  simp only [okB2s, Bool.and_eq_true] at h
  obtain ⟨hd, h⟩ := h
  show Ct (hB2s x d c fr s) _
  unfold hB2s
  refine Ct.cellsS fun n l hl => ?_
  rcases hm : lNats l with _ | m
  · exact Ct.bad
  refine Ct.fin (do_pure hd fun r w a hb hs hf => ?_)
  split at h
  case h_2 => cases h
  rename_i t u p e'
  simp only [Bool.and_eq_true] at h
  obtain ⟨hx, h⟩ := h
  split at h
  case h_2 => cases h
  rename_i el h1 h2
  split at h
  case h_2 => cases h
  rename_i h3
  obtain ⟨ha, A, cc, vs, e1, e2, e3, e4, e5⟩ := cellsOf_rel hl hs (xB_rel hx hb hf)
  obtain ⟨rfl, hlt⟩ := lNats_rel hm e2
  rw [Nat.mul_one, List.length_map] at e3
  cases A with
  | none =>
    have : n = 0 := by
      rcases Nat.eq_zero_or_pos n with h | h
      · exact h
      · exact absurd rfl (e5 h)
    have : m = [] := List.length_eq_zero_iff.1 (e3.trans this)
    subst this
    refine ⟨.string .empty, ?_, ⟨_, rfl, rfl⟩⟩
    rw [ex_convert e', e1]
    refine run_v ?_
    rw [run_convert_bytes_string w t u el none n cc h1 h3 h2]
    rfl
  | some y =>
    refine ⟨_, ?_, ⟨_, rfl, (fold_bytes m .empty hlt).trans (List.nil_append m)⟩⟩
    rw [ex_convert e', e1]
    refine run_v ?_
    rw [run_convert_bytes_string w t u el (some y) n cc h1 h3 h2]
    refine run_bytesToString w y n cc (m.map fun (x : Nat) => (x : Int)) ?_
    have := run_loadCells_list (P := P) w y (m.map (fun (x : Nat) => Value.int .u8 (x : Int))) (fun j v hj => by
      obtain ⟨y', h1, h2⟩ := e4 j v hj
      cases h1
      exact h2)
    rw [List.length_map, e3] at this
    rw [this, List.map_map]
    rfl
theorem natsL_rel {r : Rho} : ∀ (l : List UInt8), RelL r (natsL (l.map (fun b => b.toNat))) (l.map fun b => Value.int .u8 (b.toNat : Int))
  | [] => rfl
  | b :: l => ⟨_, _, rfl, rfl, natsL_rel l⟩
noncomputable def okS2b (P : Program) (NG N : Nat) (o : Oper) (x : X) (d : D) : Bool := dB o.dst d && (match o.op with | .convert t u p => xB NG N p x && (match P.underlying t, P.underlying u with | some .string, some (.slice el) => (match P.underlying el with | some (.int .u8) => true | _ => false) | _, _ => false) | _ => false)
theorem snd_s2b {x : X} {d : D} (h : okS2b P NG N o x d = true) : Snd P NG B0 N C o (.s2b x d) := fun c _ fr s => by
  simp only [okS2b, Bool.and_eq_true] at h
  obtain ⟨hd, h⟩ := h
  show Ct (hS2b x d c fr s) _
  unfold hS2b
  refine Ct.onStr fun l e => Ct.newB (Ct.fin (do_val hd fun r w a hb hs hf => ?_))
  split at h
  case h_2 => cases h
  rename_i t u p e'
  simp only [Bool.and_eq_true] at h
  obtain ⟨hx, h⟩ := h
  split at h
  case h_2 => cases h
  rename_i el h1 h2
  split at h
  case h_2 => cases h
  rename_i h3
  have hr := xB_rel hx hb hf
  rw [e] at hr
  obtain ⟨str, hv, hl⟩ := hr
  have hsz := str_size hl
  have hge : str.size ≤ grownCap w str.size 0 el := grownCap_ge w str.size 0 el
  have hcz : (Lib.bytesCells w el str).size = str.size + (grownCap w str.size 0 el - str.size) := by
    simp [Lib.bytesCells]
  have hc : Cells r (Cs.putL (natsL l) 0 (Cs.mk l.length)) 0 (Lib.bytesCells w el str) := by
    refine Cells.putL (cs := Lib.bytesCells w el str) Cells.mk (by rw [← hl]; exact natsL_rel str.data.toList) (fun j hj => ?_) fun _ _ => rfl
    rw [List.length_map, Array.length_toList] at hj
    have hj' : j < str.data.size := hj
    simp only [Nat.zero_add, Lib.bytesCells]
    rw [Array.getElem?_append_left (by rw [Array.size_map]; exact hj'), Array.getElem?_map, List.getElem?_map, Array.getElem?_toList]
  obtain ⟨s1, s2⟩ := new_row hs el ((Lib.bytesCells w el str).size, (Lib.bytesCells w el str).size + 1) hc (.inr (Nat.le_refl _))
  have hheap : (Lib.bytesWorld w el str).heap = (w.alloc (.cells (Lib.bytesCells w el str) el ((Lib.bytesCells w el str).size, (Lib.bytesCells w el str).size + 1))).heap := by
    apply Array.ext_getElem?
    intro i
    show _ = (w.heap.push _)[i]?
    rw [Array.getElem?_push]
    by_cases hi : i = w.heap.size
    · rw [if_pos hi, hi]; exact Lib.bytesWorld_at_new w el str
    · rw [if_neg hi]
      by_cases hlt : i < w.heap.size
      · exact Lib.bytesWorld_at_old w el str i hlt
      · rw [Array.getElem?_eq_none (by rw [Lib.bytesWorld_size]; omega), Array.getElem?_eq_none (by omega)]
  have hosf : (Lib.bytesWorld w el str).os = w.os ∧ (Lib.bytesWorld w el str).tape = w.tape ∧ (Lib.bytesWorld w el str).output = w.output := ⟨rfl, rfl, rfl⟩
  refine ⟨_, _, _, ?_, new_s hs (c := grownCap w str.size 0 el) (t := (Lib.bytesCells w el str).size) (Nat.le_refl l.length) (by rw [← hsz]; exact hge) (fun h => by cases h) (by rw [hcz]; omega), s1.same hheap, s2.trans (Stp.same hosf.1 hosf.2.1 hosf.2.2 hheap)⟩
  rw [ex_convert e', hv]
  refine run_v ?_
  rw [← hsz]
  exact Lib.run_convert_string_bytes w t u el str h1 h2 h3
end
end Go.Proofs.YtenpbpgoglepfaaGreatDoor
namespace Go.Proofs.YtenpbpgoglepfaaGreatDoor
open Go.RowKit
set_option linter.unusedVariables false

section
variable {r : Rho} {q kk : IntKind} {j : Int}
theorem relM_nil {l : AV} (h : RelM r l []) : l = .nil := by
  cases l <;> simp [RelM, RelL] at h
  rfl
theorem relM_cons {l : AV} {e : MapEntry} {es : List MapEntry} (h : RelM r l (e :: es)) : ∃ k v m, l = .cons k (.cons v m) ∧ Rel r k e.key ∧ Rel r v e.val ∧ RelM r m es := by
  cases l <;> simp only [RelM, List.flatMap_cons, RelL, List.cons_append, List.nil_append, reduceCtorEq] at h
  obtain ⟨k, vs, e1, h1, h2⟩ := h
  cases e1
  rename_i x t
  cases t <;> simp only [RelL, reduceCtorEq] at h2
  obtain ⟨v, vs, e1, h3, h4⟩ := h2
  cases e1
  exact ⟨_, _, _, rfl, h1, h3, h4⟩
theorem relM_mk {k v m : AV} {e : MapEntry} {es : List MapEntry} (h1 : Rel r k e.key) (h2 : Rel r v e.val) (h3 : RelM r m es) : RelM r (.cons k (.cons v m)) (e :: es) := ⟨_, _, rfl, h1, _, _, rfl, h2, h3⟩
theorem now_hit {e : MapEntry} {es : List MapEntry} {i0 : Nat} (h : e.key = .int q j) : Instr.findNow (.int kk) (.int q j) (e :: es) i0 = some (some (i0, e.val)) := by
  unfold Instr.findNow
  rw [h]
  simp [Instr.sameNow]
theorem now_miss {e : MapEntry} {es : List MapEntry} {i0 : Nat} {i : Int} (h : e.key = .int q i) (hne : i ≠ j) : Instr.findNow (.int kk) (.int q j) (e :: es) i0 = Instr.findNow (.int kk) (.int q j) es (i0 + 1) := by
  conv => lhs; unfold Instr.findNow
  have hb : (j == i) = false := by simpa using Ne.symm hne
  rw [h]
  simp only [Instr.sameNow, if_true, hb]
/-- A key that is there, at i. -/
def Hit (kk q : IntKind) (j : Int) (es : List MapEntry) (i0 i : Nat) (e : MapEntry) : Prop := es[i]? = some e ∧ Instr.findNow (.int kk) (.int q j) es i0 = some (some (i0 + i, e.val)) ∧ e.key = .int q j
theorem Hit.succ {es : List MapEntry} {i0 i : Nat} {e e0 : MapEntry} {i' : Int} (h : Hit kk q j es (i0 + 1) i e) (h0 : e0.key = .int q i') (hne : i' ≠ j) : Hit kk q j (e0 :: es) i0 (i + 1) e := by
  obtain ⟨h1, h2, h3⟩ := h
  refine ⟨h1, ?_, h3⟩
  rw [now_miss h0 hne, h2]
  congr 3
  omega
theorem look_spec : ∀ {es : List MapEntry} {l : AV} {res : Option AV} (i0 : Nat), lookL q j l = some res → RelM r l es →
    (res = none ∧ Instr.findNow (.int kk) (.int q j) es i0 = some none) ∨ ∃ x i e, res = some x ∧ Hit kk q j es i0 i e ∧ Rel r x e.val
  | [], l, res, i0, h, hr => by
    obtain rfl := relM_nil hr
    simp only [lookL, Option.some.injEq] at h
    exact .inl ⟨h.symm, rfl⟩
  | e :: es, l, res, i0, h, hr => by
    obtain ⟨k, v, m, rfl, h1, h2, h3⟩ := relM_cons hr
    cases k <;> simp only [lookL, reduceCtorEq] at h
    rename_i t i
    simp only [Rel] at h1
    split at h
    case isFalse => cases h
    rename_i hk
    obtain rfl := (kN_eq hk).symm
    split at h
    · rename_i he
      rw [eqI_eq, decide_eq_true_eq] at he
      subst he
      cases h
      exact .inr ⟨v, 0, e, rfl, ⟨rfl, now_hit h1, h1⟩, h2⟩
    · rename_i he
      have hne : i ≠ j := fun e => he (by rw [eqI_eq, decide_eq_true_eq]; exact e)
      rcases look_spec (i0 + 1) h h3 with ⟨e1, e2⟩ | ⟨x, i', e', e1, e2, e3⟩
      · exact .inl ⟨e1, (now_miss h1 hne).trans e2⟩
      · exact .inr ⟨x, i' + 1, e', e1, e2.succ h1 hne, e3⟩
theorem put_spec {v : AV} {val : Value} (hv : Rel r v val) : ∀ {es : List MapEntry} {l m : AV} (i0 : Nat), putL q j v l = some m → RelM r l es →
    (∃ i e, Hit kk q j es i0 i e ∧ RelM r m (es.modify i fun e => { e with key := .int q j, val := val })) ∨ (Instr.findNow (.int kk) (.int q j) es i0 = some none ∧ (∀ x ∈ es, x.key ≠ .int q j) ∧ ∀ born, RelM r m (es ++ [{ key := .int q j, val := val, born := born }]))
  | [], l, m, i0, h, hr => by
    obtain rfl := relM_nil hr
    simp only [putL, Option.some.injEq] at h
    subst h
    exact .inr ⟨rfl, fun _ h => (by cases h), fun born => relM_mk (e := ⟨.int q j, val, born⟩) rfl hv (show RelL r .nil [] from rfl)⟩
  | e :: es, l, m, i0, h, hr => by
    obtain ⟨k, x, t', rfl, h1, h2, h3⟩ := relM_cons hr
    cases k <;> simp only [putL, reduceCtorEq] at h
    rename_i t i
    simp only [Rel] at h1
    split at h
    case isFalse => cases h
    rename_i hk
    obtain rfl := (kN_eq hk).symm
    split at h
    · rename_i he
      rw [eqI_eq, decide_eq_true_eq] at he
      subst he
      cases h
      exact .inl ⟨0, e, ⟨rfl, now_hit h1, h1⟩, relM_mk (e := { e with key := .int q i, val := val }) rfl hv h3⟩
    · rename_i he
      have hne : i ≠ j := fun e => he (by rw [eqI_eq, decide_eq_true_eq]; exact e)
      split at h
      · rename_i m' hm
        cases h
        rcases put_spec hv (i0 + 1) hm h3 with ⟨i', e', e2, e3⟩ | ⟨e2, e4, e3⟩
        · exact .inl ⟨i' + 1, e', e2.succ h1 hne, relM_mk (e := e) h1 h2 e3⟩
        · refine .inr ⟨(now_miss h1 hne).trans e2, fun y hy => ?_, fun born => relM_mk (e := e) h1 h2 (e3 born)⟩
          rcases List.mem_cons.1 hy with rfl | hy
          · rw [h1]; exact fun e => hne (by injection e)
          · exact e4 y hy
      · cases h
theorem del_spec : ∀ {es : List MapEntry} {l m : AV} (i0 : Nat), delL q j l = some m → RelM r l es →
    (∃ i e, Hit kk q j es i0 i e ∧ RelM r m (es.eraseIdx i)) ∨ (Instr.findNow (.int kk) (.int q j) es i0 = some none ∧ RelM r m es)
  | [], l, m, i0, h, hr => by
    obtain rfl := relM_nil hr
    simp only [delL, Option.some.injEq] at h
    subst h
    exact .inr ⟨rfl, hr⟩
  | e :: es, l, m, i0, h, hr => by
    obtain ⟨k, x, t', rfl, h1, h2, h3⟩ := relM_cons hr
    cases k <;> simp only [delL, reduceCtorEq] at h
    rename_i t i
    simp only [Rel] at h1
    split at h
    case isFalse => cases h
    rename_i hk
    obtain rfl := (kN_eq hk).symm
    split at h
    · rename_i he
      rw [eqI_eq, decide_eq_true_eq] at he
      subst he
      cases h
      exact .inl ⟨0, e, ⟨rfl, now_hit h1, h1⟩, h3⟩
    · rename_i he
      have hne : i ≠ j := fun e => he (by rw [eqI_eq, decide_eq_true_eq]; exact e)
      split at h
      · rename_i m' hm
        cases h
        rcases del_spec (i0 + 1) hm h3 with ⟨i', e', e2, e3⟩ | ⟨e2, e3⟩
        · exact .inl ⟨i' + 1, e', e2.succ h1 hne, relM_mk (e := e) h1 h2 e3⟩
        · exact .inr ⟨(now_miss h1 hne).trans e2, relM_mk (e := e) h1 h2 e3⟩
      · cases h
end
end Go.Proofs.YtenpbpgoglepfaaGreatDoor
namespace Go.Proofs.YtenpbpgoglepfaaGreatDoor
open Go.RowKit
set_option linter.unusedVariables false

section
variable {P : Program} {NG : Env} {B0 N : Nat} {C : CallE → Prop} {o : Oper} {E : Fr → St → Prop}
theorem key_int {t : TypeId} {kk q : IntKind} (h : P.underlying t = some (.int kk)) (w : World) (e : Bool) (n : Nat) (j : Int) : (Instr.checkKey e (n + 1) t (.int q j)).run P w = .ok () w := by
  unfold Instr.checkKey
  simp [run_und h]
theorem find_hit {t : TypeId} {kk q : IntKind} (h : P.underlying t = some (.int kk)) {j : Int} {es : List MapEntry} {i : Nat} {e : MapEntry} (hh : Hit kk q j es 0 i e) (w : World) : (Instr.findKey t (.int q j) es).run P w = .ok (some (i, e.val)) w := by
  unfold Instr.findKey
  have := hh.2.1
  rw [Nat.zero_add] at this
  simp [run_und h, this]
theorem find_miss {t : TypeId} {kk q : IntKind} (h : P.underlying t = some (.int kk)) {j : Int} {es : List MapEntry} (hh : Instr.findNow (.int kk) (.int q j) es 0 = some none) (w : World) : (Instr.findKey t (.int q j) es).run P w = .ok none w := by
  unfold Instr.findKey
  simp [run_und h, hh]
theorem get_map {w : World} {b : Nat} {es : Array MapEntry} {cl : Nat} (h : w.heap[b]? = some (.map es cl)) : (getObj b).run P w = .ok (.map es cl) w := by simp [getObj, Sem.run, h]
theorem set_map {w : World} {b : Nat} {es : Array MapEntry} {cl : Nat} (h : w.heap[b]? = some (.map es cl)) (o' : Obj) : (setObj b o').run P w = .ok () { w with heap := w.heap.setIfInBounds b o' } := by
  unfold setObj
  simp only [Sem.run, h]
theorem map_of {r : Rho} {s : St} {w : World} {b : Nat} {l : AV} (hs : Sim B0 r s w) (h : Hp.get s.h b = .mp l) : r.has b ∧ B0 ≤ r.blk b ∧ ∃ es cl, w.heap[r.blk b]? = some (.map es cl) ∧ RelM r l es.toList ∧ MapKept.Stamped es cl := by
  have := hs.ok b
  rw [h] at this
  exact this
/-- The types of a map. -/
noncomputable def mapB (P : Program) (t : Nat) : Bool := match P.underlying t with | some (.map k _) => (match P.underlying k with | some (.int _) => true | _ => false) | _ => false
theorem mapB_eq {t : Nat} (h : mapB P t = true) : ∃ k v kk, P.underlying t = some (.map k v) ∧ P.underlying k = some (.int kk) := by
  unfold mapB at h
  split at h
  · rename_i k v hu
    split at h
    · rename_i kk hk; exact ⟨k, v, kk, hu, hk⟩
    · cases h
  · cases h
noncomputable def okLok (P : Program) (NG N : Nat) (o : Oper) (zv : AV) (x q : X) (ok : Bool) (d : D) : Bool := dB o.dst d && (match o.op with
  | .lookup t p p' ok' => xB NG N p x && xB NG N p' q && (ok' == ok) && mapB P t && (match P.underlying t with | some (.map _ v) => (match P.info? v with | some i => (match i.zero with | some z => cAB z zv | none => false) | none => false) | _ => false)
  | _ => false)
theorem snd_lok {zv : AV} {x q : X} {ok : Bool} {d : D} (h : okLok P NG N o zv x q ok d = true) : Snd P NG B0 N C o (.lok zv x q ok d) := fun c _ fr s => by
  simp only [okLok, Bool.and_eq_true] at h
  obtain ⟨hd, h⟩ := h
  split at h
  case h_2 => cases h
  rename_i t p p' ok' e'
  simp only [Bool.and_eq_true] at h
  obtain ⟨⟨⟨⟨hx, hq⟩, hok⟩, hm⟩, hz⟩ := h
  obtain rfl := beq_iff_eq.1 hok
  obtain ⟨kt, vt, kk, hu, hk⟩ := mapB_eq hm
  rw [hu] at hz
  obtain ⟨zval, hzero, hzr⟩ : ∃ z, (∀ w, (zeroValue vt).run P w = .ok z w) ∧ ∀ r, Rel r zv z := by
    simp only at hz
    split at hz
    · rename_i i hi
      split at hz
      · rename_i z hzz
        exact ⟨z, fun w => by simp only [zeroValue, Sem.run_bind, run_info hi, Result.andThen_ok, hzz, Sem.run_pure], fun r => cAB_rel hz r⟩
      · cases hz
    · cases hz
  show Ct (hLok zv x q ok' d c fr s) _
  unfold hLok
  refine Ct.onI fun tq j eq => Ct.isNm (fun _ => ?_) fun hnm => ?_
  · refine Ct.onM fun b eb => Ct.onMp fun l hl => ?_
    rcases hlook : lookL tq j l with _ | res
    · exact Ct.bad
    refine Ct.fin (do_pure hd fun r w a hb hs hf => ?_)
    have h1 := xB_rel hx hb hf
    have h2 := xB_rel hq hb hf
    rw [eb] at h1
    rw [eq] at h2
    simp only [Rel] at h1 h2
    obtain ⟨_, _, es, cl, hh, hrm, hst⟩ := map_of hs hl
    rcases look_spec (kk := kk) 0 hlook hrm with ⟨rfl, hf0⟩ | ⟨xv, i, e, rfl, hhit, hxv⟩
    · refine ⟨if ok' then .tuple #[zval, .bool false] else zval, ?_, ?_⟩
      · rw [ex_lookup e', h1.2, h2]
        refine run_v ?_
        unfold Instr.lookup
        simp only [Sem.run_bind, run_und hu, Result.andThen_ok, get_map hh, Sem.run_pure, key_int hk, find_miss hk hf0, hzero]
      · cases ok'
        · exact hzr r
        · exact ⟨_, rfl, ⟨_, _, rfl, hzr r, _, _, rfl, rfl, rfl⟩⟩
    · refine ⟨if ok' then .tuple #[e.val, .bool true] else e.val, ?_, ?_⟩
      · rw [ex_lookup e', h1.2, h2]
        refine run_v ?_
        unfold Instr.lookup
        simp only [Sem.run_bind, run_und hu, Result.andThen_ok, get_map hh, Sem.run_pure, key_int hk, find_hit hk hhit]
      · cases ok'
        · exact hxv
        · exact ⟨_, rfl, ⟨_, _, rfl, hxv, _, _, rfl, rfl, rfl⟩⟩
  · refine Ct.fin (do_pure hd fun r w a hb hs hf => ?_)
    have h1 := xB_rel hx hb hf
    have h2 := xB_rel hq hb hf
    rw [hnm] at h1
    rw [eq] at h2
    simp only [Rel] at h1 h2
    refine ⟨if ok' then .tuple #[zval, .bool false] else zval, ?_, ?_⟩
    · rw [ex_lookup e', h1, h2]
      refine run_v ?_
      unfold Instr.lookup
      simp only [Sem.run_bind, run_und hu, Result.andThen_ok, Sem.run_pure, key_int hk, find_miss (es := (#[] : Array MapEntry).toList) hk rfl, hzero]
    · cases ok'
      · exact hzr r
      · exact ⟨_, rfl, ⟨_, _, rfl, hzr r, _, _, rfl, rfl, rfl⟩⟩
theorem keyStays (q : IntKind) (j : Int) (w : World) : (Instr.keyThatStays (.int q j) (.int q j)).run P w = .ok (.int q j) w := by
  unfold Instr.keyThatStays
  simp [Instr.sameBits]
/-- A map that is written. -/
theorem map_ok {r : Rho} {s : St} {w : World} (hs : Sim B0 r s w) {b : Nat} {l m : AV} {es : Array MapEntry} {cl : Nat} (h : Hp.get s.h b = .mp l) (hh : w.heap[r.blk b]? = some (.map es cl)) {es' : Array MapEntry} {cl' : Nat} (hm : RelM r m es'.toList) (hst' : MapKept.Stamped es' cl') :
    Sim B0 r (.mk (Hp.put s.h b (.mp m)) s.n) { w with heap := w.heap.setIfInBounds (r.blk b) (.map es' cl') } ∧ Stp r s w r (.mk (Hp.put s.h b (.mp m)) s.n) { w with heap := w.heap.setIfInBounds (r.blk b) (.map es' cl') } := by
  obtain ⟨h1, h2, _⟩ := map_of hs h
  have hlt := (Array.getElem?_eq_some_iff.1 hh).1
  refine hs.wrote b (.mp m) (by rw [h]; exact trivial) ⟨h1, h2, es', cl', by simp [hlt], hm, hst'⟩ rfl rfl rfl (by simp) (fun x _ hx => ?_)
  show (w.heap.setIfInBounds _ _)[x]? = _
  rw [Array.getElem?_setIfInBounds_ne (Ne.symm hx)]
noncomputable def okMup (P : Program) (NG N : Nat) (o : Oper) (x q v : X) : Bool := o.dst.isNone && (match o.op with
  | .mapUpdate t p p' p2 => xB NG N p x && xB NG N p' q && xB NG N p2 v && mapB P t
  | .insert t p p' p2 => xB NG N p x && xB NG N p' q && xB NG N p2 v && mapB P t
  | _ => false)
theorem snd_mup {x q v : X} (h : okMup P NG N o x q v = true) : Snd P NG B0 N C o (.mup x q v) := fun c _ fr s => by
  simp only [okMup, Bool.and_eq_true, Option.isNone_iff_eq_none] at h
  obtain ⟨hd, h⟩ := h
  obtain ⟨t, p, p', p2, e', h⟩ : ∃ t p p' p2, (∀ ρ, execOp ρ o = (do Instr.mapUpdate t (ρ p) (ρ p') (ρ p2); pure .skip)) ∧ (((xB NG N p x = true ∧ xB NG N p' q = true) ∧ xB NG N p2 v = true) ∧ mapB P t = true) := by
    split at h
    · rename_i t p p' p2 e'; exact ⟨t, p, p', p2, fun ρ => ex_mapUpdate e', by simpa only [Bool.and_eq_true] using h⟩
    · rename_i t p p' p2 e'; exact ⟨t, p, p', p2, fun ρ => ex_insert e', by simpa only [Bool.and_eq_true] using h⟩
    · cases h
  obtain ⟨⟨⟨hx, hq⟩, hv⟩, hm⟩ := h
  obtain ⟨kt, vt, kk, hu, hk⟩ := mapB_eq hm
  show Ct (hMup x q v c fr s) _
  unfold hMup
  refine Ct.onM fun b eb => Ct.onMp fun l hl => Ct.onI fun tq j eq => Ct.isU fun _ => ?_
  rcases hput : putL tq j (X.ev v fr) l with _ | m
  · exact Ct.bad
  refine Ct.fin (do_skip hd fun r w a hb hs hf => ?_)
  have h1 := xB_rel hx hb hf
  have h2 := xB_rel hq hb hf
  have h3 := xB_rel hv hb hf
  rw [eb] at h1
  rw [eq] at h2
  simp only [Rel] at h1 h2
  obtain ⟨_, _, es, cl, hh, hrm, hst⟩ := map_of hs hl
  rcases put_spec (kk := kk) h3 0 hput hrm with ⟨i, e, hhit, hm'⟩ | ⟨hmiss, hkeys, hm'⟩
  · obtain ⟨s1, s2⟩ := map_ok hs hl hh (es' := es.modify i fun e => { e with key := .int tq j, val := a.eval p2 }) (cl' := cl) (by rw [Array.toList_modify]; exact hm') (MapKept.stamped_modify hst i _ (fun _ _ => rfl) (fun e2 _ h2 => by
      have := hhit.1
      rw [Array.getElem?_toList, h2] at this
      cases this
      exact hhit.2.2.symm))
    refine ⟨_, r, ?_, s1, s2⟩
    rw [e', h1.2, h2]
    refine run_u ?_
    unfold Instr.mapUpdate
    have hkey : ((es[i]?).map (·.key)).getD (Value.int tq j) = .int tq j := by
      have := hhit.1
      rw [Array.getElem?_toList] at this
      rw [this]
      exact hhit.2.2
    simp only [Sem.run_bind, run_und hu, Result.andThen_ok, get_map hh, key_int hk, find_hit hk hhit, hkey, keyStays, set_map hh]
  · obtain ⟨s1, s2⟩ := map_ok hs hl hh (es' := es.push { key := .int tq j, val := a.eval p2, born := cl }) (cl' := cl + 1) (by rw [Array.toList_push]; exact hm' cl) (MapKept.stamped_push hst hkeys)
    refine ⟨_, r, ?_, s1, s2⟩
    rw [e', h1.2, h2]
    refine run_u ?_
    unfold Instr.mapUpdate
    simp only [Sem.run_bind, run_und hu, Result.andThen_ok, get_map hh, key_int hk, find_miss hk hmiss, set_map hh]
/-- A call of a builtin. -/
theorem ex_builtin {ρ : Operand → Value} {b : Builtin} {q : Call} (e : o.op = .call q) (hb : q.callee = .builtin b) (w : World) : (execOp ρ o).run P w = (builtin b q.argTypes o.type (q.args.map fun | .const _ => true | _ => false) (q.args.map ρ)).run P w := by
  rw [ex_call e]
  unfold resolve
  rw [hb]
  rfl
noncomputable def okDel (P : Program) (NG N : Nat) (o : Oper) (x q : X) (d : D) : Bool := dB o.dst d && (match o.op with
  | .call c => (match c.callee, c.args.toList, c.argTypes[0]? with | .builtin .delete, [p, p'], some t => xB NG N p x && xB NG N p' q && mapB P t | _, _, _ => false)
  | _ => false)
theorem snd_del {x q : X} {d : D} (h : okDel P NG N o x q d = true) : Snd P NG B0 N C o (.del x q d) := fun c _ fr s => by
  simp only [okDel, Bool.and_eq_true] at h
  obtain ⟨hd, h⟩ := h
  split at h
  case h_2 => cases h
  rename_i cl e'
  split at h
  case h_2 => cases h
  rename_i p p' t hc ha ht
  simp only [Bool.and_eq_true] at h
  obtain ⟨⟨hx, hq⟩, hm⟩ := h
  obtain ⟨kt, vt, kk, hu, hk⟩ := mapB_eq hm
  show Ct (hDel x q d c fr s) _
  unfold hDel
  refine Ct.onM fun b eb => Ct.onMp fun l hl => Ct.onI fun tq j eq => ?_
  rcases hdel : delL tq j l with _ | m
  · exact Ct.bad
  refine Ct.fin (do_val hd fun r w a hb hs hf => ?_)
  have h1 := xB_rel hx hb hf
  have h2 := xB_rel hq hb hf
  rw [eb] at h1
  rw [eq] at h2
  simp only [Rel] at h1 h2
  obtain ⟨_, _, es, clk, hh, hrm, hst⟩ := map_of hs hl
  have hargs : cl.args.map a.eval = #[a.eval p, a.eval p'] := by
    apply Array.toList_inj.1
    rw [Array.toList_map, ha]
    rfl
  rcases del_spec (kk := kk) 0 hdel hrm with ⟨i, e, hhit, hm'⟩ | ⟨hmiss, hm'⟩
  · obtain ⟨s1, s2⟩ := map_ok hs hl hh (es' := es.eraseIdxIfInBounds i) (cl' := clk) (by
      rw [Array.toList_eraseIdxIfInBounds]
      exact hm') (MapKept.stamped_erase hst i)
    refine ⟨.tuple #[], _, r, ?_, trivial, s1, s2⟩
    rw [ex_builtin e' hc, hargs, h1.2, h2]
    refine run_v ?_
    simp only [Builtin.delete_, ht, List.getElem?_toArray, List.getElem?_cons_zero, List.getElem?_cons_succ, Sem.run_bind, run_und hu, Result.andThen_ok, get_map hh, key_int hk, find_hit hk hhit, set_map hh, Sem.run_pure]
  · obtain ⟨s1, s2⟩ := map_ok hs hl hh (es' := es) (cl' := clk) hm' hst
    refine ⟨.tuple #[], _, r, ?_, trivial, s1, s2⟩
    rw [ex_builtin e' hc, hargs, h1.2, h2]
    refine run_v ?_
    simp only [Builtin.delete_, ht, List.getElem?_toArray, List.getElem?_cons_zero, List.getElem?_cons_succ, Sem.run_bind, run_und hu, Result.andThen_ok, get_map hh, key_int hk, find_miss hk hmiss, set_map hh, Sem.run_pure]
end
end Go.Proofs.YtenpbpgoglepfaaGreatDoor
namespace Go.Proofs.YtenpbpgoglepfaaGreatDoor
open Go.RowKit
set_option linter.unusedVariables false

section
variable {P : Program} {NG : Env} {B0 N : Nat} {C : CallE → Prop} {o : Oper} {E : Fr → St → Prop}
noncomputable def okLen (P : Program) (NG N : Nat) (o : Oper) (g : Nat) (x : X) (d : D) : Bool := dB o.dst d && (match o.op with
  | .call c => (match c.callee, c.args.toList, c.argTypes[0]? with
    | .builtin .len, [p], some t => xB NG N p x && (match P.underlying t, g with | some .string, 0 => true | some (.slice _), 1 => true | some (.map _ _), 2 => true | _, _ => false)
    | _, _, _ => false)
  | _ => false)
theorem args1 {cl : Call} {p : Operand} (a : Act) (ha : cl.args.toList = [p]) : cl.args.map a.eval = #[a.eval p] := by
  apply Array.toList_inj.1
  rw [Array.toList_map, ha]
  rfl
theorem args2 {cl : Call} {p p' : Operand} (a : Act) (ha : cl.args.toList = [p, p']) : cl.args.map a.eval = #[a.eval p, a.eval p'] := by
  apply Array.toList_inj.1
  rw [Array.toList_map, ha]
  rfl
theorem relM_len {r : Rho} : ∀ {es : List MapEntry} {l : AV}, RelM r l es → lenL l = 2 * es.length
  | [], l, h => by obtain rfl := relM_nil h; rfl
  | e :: es, l, h => by
    obtain ⟨k, v, m, rfl, _, _, h3⟩ := relM_cons h
    rw [lenL_cons, lenL_cons, relM_len h3, List.length_cons]
    omega
theorem snd_len {g : Nat} {x : X} {d : D} (h : okLen P NG N o g x d = true) : Snd P NG B0 N C o (.len g x d) := fun c _ fr s => by
  simp only [okLen, Bool.and_eq_true] at h
  obtain ⟨hd, h⟩ := h
  split at h
  case h_2 => cases h
  rename_i cl e'
  split at h
  case h_2 => cases h
  rename_i p t hc ha ht
  simp only [Bool.and_eq_true] at h
  obtain ⟨hx, h⟩ := h
  show Ct (hLen g x d c fr s) _
  unfold hLen
  split at h
  · rename_i hu
    refine Ct.onStr (f := fun l k => strictN l.length fun n => k (D.put d (.i .i64 (.ofNat n)) fr) s) fun l e => Ct.strictN (Ct.fin (do_pure hd fun r w a hb hs hf => ?_))
    have h1 := xB_rel hx hb hf
    rw [e] at h1
    obtain ⟨str, hv, hl⟩ := h1
    refine ⟨.int .i64 (l.length : Int), ?_, rfl⟩
    rw [ex_builtin e' hc, args1 a ha, hv]
    refine run_v ?_
    simp only [Builtin.len_, ht, List.getElem?_toArray, List.getElem?_cons_zero, Sem.run_bind, run_und hu, Result.andThen_ok, Sem.run_pure, goInt, str_size hl]
  · rename_i el hu
    refine Ct.isNs (f := fun k => AV.onS (X.ev x fr) .bad fun _ _ _ n _ _ => k (D.put d (.i .i64 (.ofNat n)) fr) s) (g := fun k => k (D.put d (.i .i64 (.ofNat 0)) fr) s) (fun _ => Ct.onS fun b q z n cp ex e => Ct.fin (do_pure hd fun r w a hb hs hf => ?_)) fun e => Ct.fin (do_pure hd fun r w a hb hs hf => ?_)
    · have h1 := xB_rel hx hb hf
      rw [e] at h1
      obtain ⟨_, x0, c0, hv, _⟩ := h1
      refine ⟨.int .i64 (n : Int), ?_, rfl⟩
      rw [ex_builtin e' hc, args1 a ha, hv]
      refine run_v ?_
      simp only [Builtin.len_, ht, List.getElem?_toArray, List.getElem?_cons_zero, Sem.run_bind, run_und hu, Result.andThen_ok, Sem.run_pure, goInt]
    · have h1 := xB_rel hx hb hf
      rw [e] at h1
      simp only [Rel] at h1
      refine ⟨.int .i64 0, ?_, rfl⟩
      rw [ex_builtin e' hc, args1 a ha, h1]
      refine run_v ?_
      simp only [Builtin.len_, ht, List.getElem?_toArray, List.getElem?_cons_zero, Sem.run_bind, run_und hu, Result.andThen_ok, Sem.run_pure, goInt]
      rfl
  · rename_i kt vt hu
    refine Ct.isNm (f := fun k => AV.onM (X.ev x fr) .bad fun b => GB.onMp (Hp.get s.h b) .bad fun l => strictN (Nat.div (lenL l) 2) fun n => k (D.put d (.i .i64 (.ofNat n)) fr) s) (g := fun k => k (D.put d (.i .i64 (.ofNat 0)) fr) s) (fun _ => Ct.onM fun b e => Ct.onMp fun l hl => Ct.strictN (Ct.fin (do_pure hd fun r w a hb hs hf => ?_))) fun e => Ct.fin (do_pure hd fun r w a hb hs hf => ?_)
    · have h1 := xB_rel hx hb hf
      rw [e] at h1
      simp only [Rel] at h1
      obtain ⟨_, _, es, ck, hh, hrm, _⟩ := map_of hs hl
      have hlen := relM_len hrm
      have e2 : Nat.div (lenL l) 2 = es.size := by
        show lenL l / 2 = es.size
        rw [hlen, Array.length_toList]
        omega
      refine ⟨.int .i64 (es.size : Int), ?_, by rw [e2]; rfl⟩
      rw [ex_builtin e' hc, args1 a ha, h1.2]
      refine run_v ?_
      simp only [Builtin.len_, ht, List.getElem?_toArray, List.getElem?_cons_zero, Sem.run_bind, run_und hu, Result.andThen_ok, get_map hh, Sem.run_pure, goInt]
    · have h1 := xB_rel hx hb hf
      rw [e] at h1
      simp only [Rel] at h1
      refine ⟨.int .i64 0, ?_, rfl⟩
      rw [ex_builtin e' hc, args1 a ha, h1]
      refine run_v ?_
      simp only [Builtin.len_, ht, List.getElem?_toArray, List.getElem?_cons_zero, Sem.run_bind, run_und hu, Result.andThen_ok, Sem.run_pure, goInt]
  · cases h
/-- An array's length is its type's. -/
noncomputable def okLenA (P : Program) (o : Oper) (n : Nat) (d : D) : Bool := dB o.dst d && (match o.op with
  | .call c => (match c.callee, c.args.toList, c.argTypes[0]? with
    | .builtin .len, [p], some t => (match P.underlying t with | some (.array n' _) => Nat.beq n' n | _ => false)
    | _, _, _ => false)
  | _ => false)
theorem snd_lenA {n : Nat} {d : D} (h : okLenA P o n d = true) : Snd P NG B0 N C o (.mov (.k (.i .i64 (.ofNat n))) d) := fun c _ fr s => by
  simp only [okLenA, Bool.and_eq_true] at h
  obtain ⟨hd, h⟩ := h
  split at h
  case h_2 => cases h
  rename_i cl e'
  split at h
  case h_2 => cases h
  rename_i p t hc ha ht
  split at h
  case h_2 => cases h
  rename_i n' el hu
  obtain rfl := Nat.eq_of_beq_eq_true h
  refine Ct.fin (do_pure hd fun r w a hb hs hf => ⟨.int .i64 (n' : Int), ?_, rfl⟩)
  rw [ex_builtin e' hc, args1 a ha]
  refine run_v ?_
  simp only [Builtin.len_, ht, List.getElem?_toArray, List.getElem?_cons_zero, Sem.run_bind, run_und hu, Result.andThen_ok, Sem.run_pure, goInt]
noncomputable def okCap (P : Program) (NG N : Nat) (o : Oper) (x : X) (d : D) : Bool := dB o.dst d && (match o.op with
  | .call c => (match c.callee, c.args.toList, c.argTypes[0]? with
    | .builtin .cap, [p], some t => xB NG N p x && (match P.underlying t with | some (.slice _) => true | _ => false)
    | _, _, _ => false)
  | _ => false)
theorem snd_cap {x : X} {d : D} (h : okCap P NG N o x d = true) : Snd P NG B0 N C o (.cap x d) := fun c _ fr s => by
  simp only [okCap, Bool.and_eq_true] at h
  obtain ⟨hd, h⟩ := h
  split at h
  case h_2 => cases h
  rename_i cl e'
  split at h
  case h_2 => cases h
  rename_i p t hc ha ht
  simp only [Bool.and_eq_true] at h
  obtain ⟨hx, h⟩ := h
  split at h
  case h_2 => cases h
  rename_i el hu
  show Ct (hCap x d c fr s) _
  unfold hCap
  generalize hv : X.ev x fr = v
  split
  · refine Ct.fin (do_pure hd fun r w a hb hs hf => ?_)
    have h1 := xB_rel hx hb hf
    rw [hv] at h1
    simp only [Rel] at h1
    refine ⟨.int .i64 0, ?_, rfl⟩
    rw [ex_builtin e' hc, args1 a ha, h1]
    refine run_v ?_
    simp only [Builtin.cap_, ht, List.getElem?_toArray, List.getElem?_cons_zero, Sem.run_bind, run_und hu, Result.andThen_ok, Sem.run_pure, goInt]
    rfl
  · rename_i b q z n cp
    refine Ct.fin (do_pure hd fun r w a hb hs hf => ?_)
    have h1 := xB_rel hx hb hf
    rw [hv] at h1
    obtain ⟨_, x0, c0, hv', _, _, hex, _⟩ := h1
    obtain rfl := hex rfl
    refine ⟨.int .i64 (c0 : Int), ?_, rfl⟩
    rw [ex_builtin e' hc, args1 a ha, hv']
    refine run_v ?_
    simp only [Builtin.cap_, ht, List.getElem?_toArray, List.getElem?_cons_zero, Sem.run_bind, run_und hu, Result.andThen_ok, Sem.run_pure, goInt]
  · exact Ct.bad
noncomputable def okMnx (NG N : Nat) (o : Oper) (g : Bool) (x y : X) (d : D) : Bool := dB o.dst d && (match o.op with
  | .call c => (match c.callee, c.args.toList, g with
    | .builtin .min, [p, p'], true => xB NG N p x && xB NG N p' y
    | .builtin .max, [p, p'], false => xB NG N p x && xB NG N p' y
    | _, _, _ => false)
  | _ => false)
theorem snd_mnx {g : Bool} {x y : X} {d : D} (h : okMnx NG N o g x y d = true) : Snd P NG B0 N C o (.mnx g x y d) := fun c _ fr s => by
  simp only [okMnx, Bool.and_eq_true] at h
  obtain ⟨hd, h⟩ := h
  split at h
  case h_2 => cases h
  rename_i cl e'
  show Ct (hMnx g x y d c fr s) _
  unfold hMnx
  refine Ct.onI fun t m e1 => Ct.onI fun t' n e2 => Ct.fin (do_pure hd fun r w a hb hs hf => ?_)
  split at h
  · rename_i p p' hc ha
    simp only [Bool.and_eq_true] at h
    have h1 := xB_rel h.1 hb hf
    have h2 := xB_rel h.2 hb hf
    rw [e1] at h1
    rw [e2] at h2
    simp only [Rel] at h1 h2
    refine ⟨.int t (if n < m then n else m), ?_, ?_⟩
    · rw [ex_builtin e' hc, args2 a ha, h1, h2]
      refine run_v ?_
      simp [Builtin.min_, Builtin.min2]
    · rw [ltI_eq]
      by_cases hlt : m < n
      · rw [decide_eq_true hlt, if_neg (by omega)]; rfl
      · rw [decide_eq_false hlt]
        show Rel r (.i t n) _
        by_cases hl2 : n < m
        · rw [if_pos hl2]; rfl
        · rw [if_neg hl2, show n = m by omega]; rfl
  · rename_i p p' hc ha
    simp only [Bool.and_eq_true] at h
    have h1 := xB_rel h.1 hb hf
    have h2 := xB_rel h.2 hb hf
    rw [e1] at h1
    rw [e2] at h2
    simp only [Rel] at h1 h2
    refine ⟨.int t (if n > m then n else m), ?_, ?_⟩
    · rw [ex_builtin e' hc, args2 a ha, h1, h2]
      refine run_v ?_
      simp [Builtin.max_, Builtin.max2]
    · rw [ltI_eq]
      by_cases hlt : m < n
      · rw [decide_eq_true hlt, if_pos (by omega)]; rfl
      · rw [decide_eq_false hlt, if_neg (by omega)]; rfl
  · cases h
end
end Go.Proofs.YtenpbpgoglepfaaGreatDoor
namespace Go.Proofs.YtenpbpgoglepfaaGreatDoor
open Go.RowKit
set_option linter.unusedVariables false

section
variable {P : Program} {NG : Env} {B0 N : Nat} {C : CallE → Prop} {o : Oper} {E : Fr → St → Prop}
/-- What is asked of an append's element type. -/
structure ElOk (P : Program) (t el z : Nat) (q : TypeInfo) (zv : Value) : Prop where
  hu : P.underlying t = some (.slice el)
  hq : P.info? el = some q
  hz : q.zero = some zv
  size : q.size = z
  zsize : zv.cells.size = z
  pos : 0 < z
  bytes : q.bytes ≤ 1000000
theorem zeroCells_size (z : Array Value) (k : Nat) : (Builtin.zeroCells z k).size = k * z.size := by simp [Builtin.zeroCells]
/-- Behind a growth: a new row. -/
theorem grown_ok {r : Rho} {s : St} {w : World} (hs : Sim B0 r s w) {el z m gc : Nat} {cells : AV} {vs : List Value} {zv : Value} (hr : RelL r cells vs) (hlen : vs.length = m * z) (hz : zv.cells.size = z) (hgc : m ≤ gc) :
    Sim B0 (r.push w.heap.size 0 (gc * z)) (s.new (Nat.mul m z) cells) (w.drew.alloc (.cells (vs.toArray ++ Builtin.zeroCells zv.cells (gc - m)) el)) ∧
      Stp r s w (r.push w.heap.size 0 (gc * z)) (s.new (Nat.mul m z) cells) (w.drew.alloc (.cells (vs.toArray ++ Builtin.zeroCells zv.cells (gc - m)) el)) ∧
      Rel (r.push w.heap.size 0 (gc * z)) (.s s.n 0 z m m false) (.slice (some ⟨w.heap.size, 0, none⟩) m gc) := by
  have hsz : (vs.toArray ++ Builtin.zeroCells zv.cells (gc - m)).size = gc * z := by
    rw [Array.size_append, zeroCells_size, hz, List.size_toArray, hlen, ← Nat.add_mul]
    congr 1
    omega
  have hc : Cells r (Cs.putL cells 0 (Cs.mk (Nat.mul m z))) 0 (vs.toArray ++ Builtin.zeroCells zv.cells (gc - m)) := by
    refine Cells.putL (cs := vs.toArray ++ Builtin.zeroCells zv.cells (gc - m)) Cells.mk hr (fun j hj => ?_) fun _ _ => rfl
    rw [Nat.zero_add, Array.getElem?_append_left (by rw [List.size_toArray]; exact hj), List.getElem?_toArray]
  have hd : Sim B0 r s w.drew := hs.same rfl
  obtain ⟨s1, s2⟩ := new_row hd el (0, 0) hc (.inl rfl)
  rw [hsz] at s1 s2
  have hst : Stp r s w r s w.drew := Stp.same rfl rfl rfl rfl
  exact ⟨s1, hst.trans s2, new_s hs (Nat.le_refl _) hgc (fun h => by cases h) (Nat.le_refl _)⟩
/-- What an append takes its elements from. -/
structure AppSrc (P : Program) (t tx ty el : Nat) (q : TypeInfo) (zv : Value) (x : Value) (n : Nat) (news : List Value) (w : World) : Prop where
  newsLen : news.length = n * q.size
  nothing : n = 0 → ∀ A sl sc, sl ≤ sc → (Builtin.append_ #[t, tx] ty #[.slice A sl sc, x]).run P w = .ok (.slice A sl sc) w
  room : 0 < n → ∀ b off sl sc, sl + n ≤ sc → (∀ j, j < news.length → (w.cell? ⟨b, off + sl * q.size + j, none⟩).isSome = true) → (∀ j, j < news.length → w.frozen? ⟨b, off + sl * q.size + j, none⟩ = false) →
    (Builtin.append_ #[t, tx] ty #[.slice (some ⟨b, off, none⟩) sl sc, x]).run P w = .ok (.slice (some ⟨b, off, none⟩) (sl + n) sc) (w.setCells b (off + sl * q.size) news)
  grow : 0 < n → ∀ base sl sc (olds : List Value), (Builtin.firstCells q.size sl (.slice base sl sc)).run P w.drew = .ok olds.toArray w.drew → sc < sl + n → ((sl + n : Nat) : Int) ≤ 9223372036854775807 → Builtin.nextslicecap (sl + n) sc * q.bytes ≤ 281474976710656 →
    (Builtin.append_ #[t, tx] ty #[.slice base sl sc, x]).run P w = .ok (.slice (some ⟨w.heap.size, 0, none⟩) (sl + n) (grownCap w (sl + n) sc el)) (w.drew.alloc (.cells ((olds ++ news).toArray ++ Builtin.zeroCells zv.cells (grownCap w (sl + n) sc el - (sl + n))) el))
theorem AppSrc.of {t tx ty el z : Nat} {q : TypeInfo} {zv : Value} (he : ElOk P t el z q zv) {x : Value} {n : Nat} {news : List Value} {w : World} (h : Src P z tx x n news w) : AppSrc P t tx ty el q zv x n news w := by
  obtain ⟨hu, hq, hz, hsize, hzs, hpos, hby⟩ := he
  subst hsize
  refine ⟨h.newsLen, fun h0 A sl sc hle => ?_, fun _ b off sl sc hr hc hf => run_append_room_src (P := P) w t tx ty el q hu hq b off sl sc x n news h hr hc hf, fun _ base sl sc olds hold hg h63 hfit => run_append_grow_src (P := P) w t tx ty el q zv hu hq hz base sl sc olds hold x n news h hg h63 hfit⟩
  subst h0
  have : news = [] := List.length_eq_zero_iff.1 (by rw [h.newsLen]; omega)
  subst this
  exact run_append_nothing w t tx ty el q hu hq A sl sc hle x h
theorem ct_app {t tx ty el z : Nat} {q : TypeInfo} {zv : Value} (he : ElOk P t el z q zv) {n : Nat} {l : AV} {x : X} {p p' : Operand} {d : D} {fr : Fr} {s : St} (hd : dB o.dst d = true) (hx : xB NG N p x = true)
    (hex : ∀ (a : Act) (w : World), (execOp a.eval o).run P w = (do pure (Next.value (← Builtin.append_ #[t, tx] ty #[a.eval p, a.eval p'])) : Sem Next).run P w)
    (hsrc : ∀ (r : Rho) (w : World) (a : Act), Base NG r → Sim B0 r s w → FrR N r fr a → ∃ news, AppSrc P t tx ty el q zv (a.eval p') n news w ∧ RelL r l news) :
    Ct (appE z (X.ev x fr) n l d fr s) (OpDo P NG B0 N o fr s) := by
  obtain ⟨hu, hq, hz, hsize, hzs, hpos, hby⟩ := he
  subst hsize
  unfold appE
  cases n with
  | zero =>
    show Ct (fun k => AV.isNs (X.ev x fr) (AV.onS (X.ev x fr) .bad fun _ _ z' _ _ _ => ifB (Nat.beq q.size z') (k (D.put d (X.ev x fr) fr) s) .bad) (k (D.put d .ns fr) s)) _
    refine Ct.isNs (f := fun k => AV.onS (X.ev x fr) .bad fun _ _ z' _ _ _ => ifB (Nat.beq q.size z') (k (D.put d (X.ev x fr) fr) s) .bad) (g := fun k => k (D.put d .ns fr) s) (fun _ => Ct.onS fun b o' z' len cap ex e => Ct.must fun _ => Ct.fin (do_pure hd fun r w a hb hs hf => ?_)) fun e => Ct.fin (do_pure hd fun r w a hb hs hf => ?_)
    · obtain ⟨news, h1, h2⟩ := hsrc r w a hb hs hf
      have : news = [] := List.length_eq_zero_iff.1 (by rw [h1.newsLen]; omega)
      subst this
      have hr := xB_rel hx hb hf
      rw [e] at hr ⊢
      obtain ⟨hbn, x0, c0, hv, hrest⟩ := hr
      refine ⟨a.eval p, ?_, by rw [hv]; exact ⟨hbn, x0, c0, rfl, hrest⟩⟩
      rw [hex, hv]
      refine run_v ?_
      exact h1.nothing rfl _ len c0 (by have := hrest.2.2.2.1; have := hrest.2.1; omega)
    · obtain ⟨news, h1, h2⟩ := hsrc r w a hb hs hf
      have : news = [] := List.length_eq_zero_iff.1 (by rw [h1.newsLen]; omega)
      subst this
      have hr := xB_rel hx hb hf
      rw [e] at hr
      simp only [Rel] at hr
      refine ⟨.slice none 0 0, ?_, rfl⟩
      rw [hex, hr]
      refine run_v ?_
      exact h1.nothing rfl _ 0 0 (Nat.le_refl _)
  | succ n =>
    refine Ct.isNs (fun _ => ?_) fun e => ?_
    · refine Ct.onS fun b o' z' len cap ex e => Ct.must fun hz' => Ct.ite (fun hroom => ?_) fun hroom => ?_
      · obtain rfl := Nat.eq_of_beq_eq_true hz'
        have hroom := Nat.le_of_ble_eq_true hroom
        refine Ct.onW fun cs hcs => Ct.must fun ha => Ct.strictN (Ct.fin (do_val hd fun r w a hb hs hf => ?_))
        obtain ⟨news, h1, h2⟩ := hsrc r w a hb hs hf
        have hr := xB_rel hx hb hf
        rw [e] at hr
        obtain ⟨hbn, x0, c0, hv, hx0, hcap, hexc, hlc, htot⟩ := hr
        have hx1 : x0 = r.off b + o' := hx0 (Nat.lt_of_lt_of_le (Nat.succ_pos _) hroom)
        have hnl := h1.newsLen
        obtain ⟨_, rcs, t', f', hh, hzz, hc, hfz⟩ := row_of hs (.inr hcs)
        obtain ⟨vs, v1, v2, v3⟩ := getL_rel hc _ _ ha
        have hroomc : ∀ j, j < news.length → ∃ v, rcs[r.off b + (o' + len * q.size) + j]? = some v := fun j hj => by
          obtain ⟨u, _, u2⟩ := v3 j (by rw [hnl] at hj; exact hj)
          exact ⟨u, u2⟩
        obtain ⟨s1, s2⟩ := put_ok hs hcs (q := Nat.add o' (Nat.mul len q.size)) h2 (fun j hj => by
          obtain ⟨v, hv⟩ := hroomc j hj
          exact ⟨_, _, _, v, hh, hv⟩)
        refine ⟨.slice (some ⟨r.blk b, x0, none⟩) (len + (n + 1)) c0, _, r, ?_, ⟨hbn, x0, c0, rfl, fun _ => hx1, hcap, hexc, ?_, htot⟩, s1, s2⟩
        · rw [hex, hv]
          refine run_v ?_
          have := h1.room (Nat.succ_pos n) (r.blk b) x0 len c0 (by have : len + (n + 1) ≤ cap := hroom; omega)
            (fun j hj => by
              obtain ⟨v, hv⟩ := hroomc j hj
              rw [cell_at hh, hx1, Nat.add_assoc (r.off b), hv]; rfl)
            (fun j hj => by
              obtain ⟨v, hv⟩ := hroomc j hj
              have hlt := (Array.getElem?_eq_some_iff.1 hv).1
              obtain ⟨lo, hi⟩ := f'
              simp only [World.frozen?, hh, Bool.and_eq_false_iff, decide_eq_false_iff_not]
              rw [hx1, Nat.add_assoc (r.off b)]
              rcases hfz with h | h
              · right; simp only at h; omega
              · left; simp only at h; omega)
          rw [this, hx1, Nat.add_assoc (r.off b)]
          rfl
        · exact hroom
      · obtain rfl := Nat.eq_of_beq_eq_true hz'
        have hroom : cap < len + (n + 1) := by
          rcases Nat.lt_or_ge cap (len + (n + 1)) with h | h
          · exact h
          · have : Nat.ble (len + (n + 1)) cap = true := Nat.ble_eq_true_of_le h
            rw [show Nat.ble (Nat.add len (n + 1)) cap = Nat.ble (len + (n + 1)) cap from rfl, this] at hroom
            cases hroom
        refine Ct.cellsS fun len' old hold => Ct.strictN (Ct.must fun hlim => ?_)
        have hlim := Nat.le_of_ble_eq_true hlim
        have hlim' : (len + (n + 1)) * q.size ≤ 4096 := hlim
        have hm4 : len + (n + 1) ≤ 4096 := by
          have := Nat.mul_le_mul_left (len + (n + 1)) hpos
          omega
        have hfit : (len + (n + 1)) * q.bytes ≤ 140737488355328 := by
          have := Nat.mul_le_mul hm4 hby
          omega
        -- what the machine has
        have common : ∀ (r : Rho) (w : World) (a : Act), Base NG r → Sim B0 r s w → FrR N r fr a → ∃ (x0 c0 : Nat) (olds news : List Value), a.eval p = .slice (some ⟨r.blk b, x0, none⟩) len c0 ∧ r.has b ∧ (0 < cap → x0 = r.off b + o') ∧ cap ≤ c0 ∧ (ex = true → c0 = cap) ∧ len ≤ cap ∧ x0 + c0 * q.size ≤ r.tot b ∧
            RelL r old olds ∧ olds.length = len * q.size ∧ (∀ j u, olds[j]? = some u → w.cell? ((⟨r.blk b, x0, none⟩ : Addr).add j) = some u) ∧ AppSrc P t tx ty el q zv (a.eval p') (n + 1) news w ∧ RelL r l news := fun r w a hb hs hf => by
          obtain ⟨news, h1, h2⟩ := hsrc r w a hb hs hf
          have hr := xB_rel hx hb hf
          have hrr := hr
          rw [e] at hr
          obtain ⟨hbn, x0, c0, hv, hx0, hcap, hexc, hlc, htot⟩ := hr
          obtain ⟨_, A, cc, olds, e1, e2, e3, e4, e5⟩ := cellsOf_rel hold hs hrr
          rw [hv] at e1
          cases e1
          exact ⟨x0, c0, olds, news, hv, hbn, hx0, hcap, hexc, hlc, htot, e2, e3, fun j u hj => by
            obtain ⟨y, y1, y2⟩ := e4 j u hj
            cases y1
            exact y2, h1, h2⟩
        have grows : ∀ (r : Rho) (w : World) (a : Act) (x0 c0 : Nat) (olds news : List Value), a.eval p = .slice (some ⟨r.blk b, x0, none⟩) len c0 → c0 < len + (n + 1) → olds.length = len * q.size → (∀ j u, olds[j]? = some u → w.cell? ((⟨r.blk b, x0, none⟩ : Addr).add j) = some u) → AppSrc P t tx ty el q zv (a.eval p') (n + 1) news w →
            (execOp a.eval o).run P w = .ok (.value (.slice (some ⟨w.heap.size, 0, none⟩) (len + (n + 1)) (grownCap w (len + (n + 1)) c0 el))) (w.drew.alloc (.cells ((olds ++ news).toArray ++ Builtin.zeroCells zv.cells (grownCap w (len + (n + 1)) c0 el - (len + (n + 1)))) el)) := fun r w a x0 c0 olds news hv hg hol hcell h1 => by
          rw [hex, hv]
          refine run_v ?_
          exact h1.grow (Nat.succ_pos n) _ len c0 olds (run_firstCells_some w.drew q.size len _ len c0 olds hol (by simpa using hcell)) hg (by omega) (growslice_fits hg hfit)
        refine Ct.ite (fun hext => ?_) fun hext => ?_
        · refine Ct.newB (Ct.fin (do_val hd fun r w a hb hs hf => ?_))
          obtain ⟨x0, c0, olds, news, hv, hbn, hx0, hcap, hexc, hlc, htot, hro, hol, hcell, h1, h2⟩ := common r w a hb hs hf
          obtain rfl := hexc hext
          obtain ⟨s1, s2, s3⟩ := grown_ok (el := el) hs (app_rel hro h2) (m := len + (n + 1)) (by rw [List.length_append, hol, h1.newsLen, ← Nat.add_mul]) hzs (grownCap_ge w (len + (n + 1)) c0 el)
          exact ⟨_, _, _, grows r w a x0 c0 olds news hv hroom hol hcell h1, s3, s1, s2⟩
        · refine Ct.onW fun cs hcs => Ct.newB (Ct.fin (do_val hd fun r w a hb hs hf => ?_))
          obtain ⟨x0, c0, olds, news, hv, hbn, hx0, hcap, hexc, hlc, htot, hro, hol, hcell, h1, h2⟩ := common r w a hb hs hf
          have hnl := h1.newsLen
          by_cases hg : c0 < len + (n + 1)
          · have hdrop := hs.drop b
            obtain ⟨s1, s2, s3⟩ := grown_ok (el := el) hdrop (app_rel hro h2) (m := len + (n + 1)) (by rw [List.length_append, hol, h1.newsLen, ← Nat.add_mul]) hzs (grownCap_ge w (len + (n + 1)) c0 el)
            refine ⟨_, _, _, grows r w a x0 c0 olds news hv hg hol hcell h1, s3, s1, Stp.trans ?_ s2⟩
            exact ⟨.refl r, rfl, rfl, rfl, Nat.le_refl _, fun _ _ _ => rfl, fun _ h => .inl h, fun b' hb' => by
              rcases live_put hb' with ⟨_, e⟩ | ⟨_, e⟩
              · rw [show Hp.get (St.mk (Hp.put s.h b .no) s.n).h b' = Hp.get (Hp.put s.h b .no) b' from rfl, e] at hb'; exact hb'.elim
              · exact .inl ⟨b', by rw [← e]; exact hb', rfl⟩⟩
          · obtain ⟨_, rcs, t', f', hh, hzz, hc, hfz⟩ := row_of hs (.inr hcs)
            have hg : len + (n + 1) ≤ c0 := by omega
            have hmz : (len + (n + 1)) * q.size ≤ c0 * q.size := Nat.mul_le_mul_right _ hg
            have hsum : len * q.size + (n + 1) * q.size = (len + (n + 1)) * q.size := (Nat.add_mul _ _ _).symm
            have hin : x0 + len * q.size + news.length ≤ rcs.size := by rw [hnl, hzz]; omega
            obtain ⟨cs', k1, k2, k3, k4, k5, k6, k7, k8, k9⟩ := setCells_at (r.blk b) t' f' news (x0 + len * q.size) w rcs hh hin
            have hlow : B0 ≤ r.blk b := hs.live_ge (b := b) (by rw [hcs]; exact trivial)
            obtain ⟨p1, p2, p3⟩ := r.push_at (r.blk b) x0 (r.tot b)
            have hle := r.le_push hs.lt (r.blk b) x0 (r.tot b)
            have hcells : Cells (r.push (r.blk b) x0 (r.tot b)) (Cs.putL (AV.app old l) 0 (Cs.mk (Nat.mul (Nat.add len (n + 1)) q.size))) x0 cs' := by
              refine Cells.putL (cs := cs') Cells.mk ((app_rel hro h2).le hle) (fun j hj => ?_) fun _ _ => rfl
              rw [List.length_append, hol, hnl] at hj
              rw [Nat.add_zero, List.getElem?_append]
              by_cases hj1 : j < olds.length
              · rw [if_pos hj1, k4 _ (by rw [hol] at hj1; omega)]
                have := hcell j _ (List.getElem?_eq_getElem hj1)
                rw [Addr.add_mid, cell_at hh] at this
                rw [this, List.getElem?_eq_getElem hj1]
              · rw [if_neg hj1, ← k3 (j - olds.length) (by rw [hnl]; omega)]
                congr 1
                omega
            obtain ⟨s1, s2⟩ := hs.moved b x0 (.rw (Cs.putL (AV.app old l) 0 (Cs.mk (Nat.mul (Nat.add len (n + 1)) q.size)))) (by rw [hcs]; exact trivial)
              ⟨⟨r.push_n _ _ _, cs', t', f', by rw [p1]; exact k1, by rw [p3, k2, hzz], by rw [p2]; exact hcells, by rw [k2]; exact hfz⟩, by rw [p1]; exact hlow⟩ k7 k8 k9 (by rw [k6]; exact Nat.le_refl _) (fun y _ hy => k5 y hy)
            refine ⟨.slice (some ⟨r.blk b, x0, none⟩) (len + (n + 1)) c0, _, _, ?_, ?_, s1, s2⟩
            · rw [hex, hv]
              refine run_v ?_
              exact h1.room (Nat.succ_pos n) (r.blk b) x0 len c0 hg
                (fun j hj => by
                  rw [cell_at hh, Array.getElem?_eq_getElem (by omega)]; rfl)
                (fun j hj => by
                  obtain ⟨lo, hi⟩ := f'
                  simp only [World.frozen?, hh, Bool.and_eq_false_iff, decide_eq_false_iff_not]
                  rcases hfz with h | h
                  · right; simp only at h; omega
                  · left; simp only at h; omega)
            · show Rel _ (.s s.n 0 q.size (len + (n + 1)) (len + (n + 1)) false) _
              rw [hs.n]
              exact ⟨r.push_n _ _ _, x0, c0, by rw [p1], fun _ => (by rw [p2]; rfl), hg, (fun h => by cases h), Nat.le_refl _, (by rw [p3]; exact htot)⟩
    · refine Ct.must fun hlim => Ct.newB (Ct.fin (do_val hd fun r w a hb hs hf => ?_))
      have hlim := Nat.le_of_ble_eq_true hlim
      have hlim' : (n + 1) * q.size ≤ 4096 := hlim
      have hm4 : n + 1 ≤ 4096 := by
        have := Nat.mul_le_mul_left (n + 1) hpos
        omega
      have hfit : (0 + (n + 1)) * q.bytes ≤ 140737488355328 := by
        have := Nat.mul_le_mul hm4 hby
        rw [Nat.zero_add]
        omega
      obtain ⟨news, h1, h2⟩ := hsrc r w a hb hs hf
      have hr := xB_rel hx hb hf
      rw [e] at hr
      have hv : a.eval p = .slice none 0 0 := hr
      obtain ⟨s1, s2, s3⟩ := grown_ok (el := el) hs h2 (m := n + 1) h1.newsLen hzs (grownCap_ge w (n + 1) 0 el)
      refine ⟨_, _, _, ?_, s3, s1, s2⟩
      rw [hex, hv]
      refine run_v ?_
      have := h1.grow (Nat.succ_pos n) none 0 0 [] (run_firstCells_none w.drew q.size 0 0 0) (by omega) (by omega) (growslice_fits (by omega) hfit)
      rw [Nat.zero_add] at this
      exact this
end
end Go.Proofs.YtenpbpgoglepfaaGreatDoor
namespace Go.Proofs.YtenpbpgoglepfaaGreatDoor
open Go.RowKit
set_option linter.unusedVariables false

section
variable {P : Program} {NG : Env} {B0 N : Nat} {C : CallE → Prop} {o : Oper} {E : Fr → St → Prop}
/-- An append's element type. -/
noncomputable def elB (P : Program) (t z : Nat) : Bool := match P.underlying t with
  | some (.slice el) => (match P.info? el with | some q => (match q.zero with | some v => Nat.beq q.size z && Nat.beq v.cells.size z && Nat.blt 0 z && Nat.ble q.bytes 1000000 | none => false) | none => false)
  | _ => false
theorem elB_ok {t z : Nat} (h : elB P t z = true) : ∃ el q v, ElOk P t el z q v := by
  unfold elB at h
  split at h
  · rename_i el hu
    split at h
    · rename_i q hq
      split at h
      · rename_i v hv
        simp only [Bool.and_eq_true] at h
        exact ⟨el, q, v, hu, hq, hv, Nat.eq_of_beq_eq_true h.1.1.1, Nat.eq_of_beq_eq_true h.1.1.2, blt_lt h.1.2, Nat.le_of_ble_eq_true h.2⟩
      · cases h
    · cases h
  · cases h
theorem ex_append {cl : Call} {p p' : Operand} {t tx : TypeId} (e' : o.op = .call cl) (hc : cl.callee = .builtin .append) (ha : cl.args.toList = [p, p']) (ht : cl.argTypes.toList = [t, tx]) (a : Act) (w : World) :
    (execOp a.eval o).run P w = (do pure (Next.value (← Builtin.append_ #[t, tx] o.type #[a.eval p, a.eval p'])) : Sem Next).run P w := by
  have h2 : cl.argTypes = #[t, tx] := Array.toList_inj.1 ht
  rw [ex_builtin e' hc, args2 a ha, h2]
  rfl
noncomputable def okApp (P : Program) (NG N : Nat) (o : Oper) (z : Nat) (x y : X) (d : D) : Bool := dB o.dst d && (match o.op with
  | .call c => (match c.callee, c.args.toList, c.argTypes.toList with
    | .builtin .append, [p, p'], [t, tx] => xB NG N p x && xB NG N p' y && elB P t z && (match P.underlying tx with | some (.slice _) => true | _ => false)
    | _, _, _ => false)
  | _ => false)
theorem snd_app {z : Nat} {x y : X} {d : D} (h : okApp P NG N o z x y d = true) : Snd P NG B0 N C o (.app z x y d) := fun c _ fr s => by
  simp only [okApp, Bool.and_eq_true] at h
  obtain ⟨hd, h⟩ := h
  split at h
  case h_2 => cases h
  rename_i cl e'
  split at h
  case h_2 => cases h
  rename_i p p' t tx hc ha ht
  simp only [Bool.and_eq_true] at h
  obtain ⟨⟨⟨hx, hy⟩, hel⟩, h⟩ := h
  obtain ⟨el, q, v, hel⟩ := elB_ok hel
  split at h
  case h_2 => cases h
  rename_i el' hk
  show Ct (hApp z x y d c fr s) _
  unfold hApp
  refine Ct.cellsS fun n l hl => ct_app hel hd hx (ex_append e' hc ha ht) fun r w a hb hs hf => ?_
  obtain ⟨hone, A, cc, vs, e1, e2, e3, e4, e5⟩ := cellsOf_rel hl hs (xB_rel hy hb hf)
  refine ⟨vs, AppSrc.of hel ?_, e2⟩
  rw [e1]
  cases A with
  | none =>
    have : n = 0 := by
      rcases Nat.eq_zero_or_pos n with h | h
      · exact h
      · exact absurd rfl (e5 h)
    subst this
    have : vs = [] := List.length_eq_zero_iff.1 (by rw [e3]; omega)
    subst this
    exact Src.ofNil w hk cc
  | some y => exact Src.ofSlice w hk y n cc vs e3 (fun j u hj => by
      obtain ⟨y', h1, h2⟩ := e4 j u hj
      cases h1
      exact h2) (ones_rel hone e2)
noncomputable def okAps (P : Program) (NG N : Nat) (o : Oper) (x y : X) (d : D) : Bool := dB o.dst d && (match o.op with
  | .call c => (match c.callee, c.args.toList, c.argTypes.toList with
    | .builtin .append, [p, p'], [t, tx] => xB NG N p x && xB NG N p' y && elB P t 1 && (match P.underlying tx with | some .string => true | _ => false)
    | _, _, _ => false)
  | _ => false)
theorem snd_aps {x y : X} {d : D} (h : okAps P NG N o x y d = true) : Snd P NG B0 N C o (.aps x y d) := fun c _ fr s => by
  simp only [okAps, Bool.and_eq_true] at h
  obtain ⟨hd, h⟩ := h
  split at h
  case h_2 => cases h
  rename_i cl e'
  split at h
  case h_2 => cases h
  rename_i p p' t tx hc ha ht
  simp only [Bool.and_eq_true] at h
  obtain ⟨⟨⟨hx, hy⟩, hel⟩, h⟩ := h
  obtain ⟨el, q, v, hel⟩ := elB_ok hel
  split at h
  case h_2 => cases h
  rename_i hk
  show Ct (hAps x y d c fr s) _
  unfold hAps
  refine Ct.onStr fun l e => ct_app hel hd hx (ex_append e' hc ha ht) fun r w a hb hs hf => ?_
  have hr := xB_rel hy hb hf
  rw [e] at hr
  obtain ⟨str, hv, hl⟩ := hr
  refine ⟨byteCells str, AppSrc.of hel ?_, ?_⟩
  · rw [hv, ← str_size hl]; exact Src.ofString w hk str
  · rw [← hl]; exact natsL_rel str.data.toList
/-- Copies. -/
theorem Ct.lenS {x : AV} {f : Nat → K → R} (h : ∀ n, (x = .ns ∧ n = 0) ∨ (∃ b q z cp ex, x = .s b q z n cp ex) → Ct (f n) E) : Ct (fun k => Go.Proofs.YtenpbpgoglepfaaGreatDoor.lenS x fun n => f n k) E :=
  Ct.isNs (f := fun k => AV.onS x .bad fun _ _ _ n _ _ => f n k) (g := f 0) (fun _ => Ct.onS fun b q z n cp ex e => h n (.inr ⟨b, q, z, cp, ex, e⟩)) fun e => h 0 (.inl ⟨e, rfl⟩)
theorem minN_eq (a b : Nat) : minN a b = Nat.min a b := by
  unfold minN
  rcases h : Nat.ble a b with _ | _
  · have : ¬ a ≤ b := fun e => by rw [Nat.ble_eq_true_of_le e] at h; cases h
    show b = min a b
    omega
  · have := Nat.le_of_ble_eq_true h
    show a = min a b
    omega
/-- Cells laid over a slice's first elements: what the state becomes, and that the machine can store them. -/
theorem Ct.overS {z : Nat} {x : AV} {n : Nat} {l : AV} {s : St} {f : St → K → R} (h0 : n = 0 → Ct (f s) E)
    (h : ∀ b q len cp ex cs, 0 < n → x = .s b q z len cp ex → Hp.get s.h b = .rw cs → allOne (Cs.getL cs (n * z) q) = true → Ct (f (.mk (Hp.put s.h b (.rw (Cs.putL l q cs))) s.n)) E) :
    Ct (fun k => Go.Proofs.YtenpbpgoglepfaaGreatDoor.overS z x n l s fun s => f s k) E := by
  unfold Go.Proofs.YtenpbpgoglepfaaGreatDoor.overS
  cases n with
  | zero => exact h0 rfl
  | succ n =>
    refine Ct.onS (f := fun b o z' _ _ _ k => ifB (Nat.beq z z') (GB.onW (Hp.get s.h b) .bad fun cs => ifB (allOne (Cs.getL cs (Nat.mul (n + 1) z) o)) (f (.mk (Hp.put s.h b (.rw (Cs.putL l o cs))) s.n) k) .bad) .bad) fun b q z' len cp ex e => Ct.must fun hz => Ct.onW fun cs hcs => Ct.must fun ha => ?_
    obtain rfl := Nat.eq_of_beq_eq_true hz
    exact h b q len cp ex cs (Nat.succ_pos n) e hcs ha
noncomputable def okCpy (P : Program) (NG N : Nat) (o : Oper) (z : Nat) (x y : X) (d : D) : Bool := dB o.dst d && (match o.op with
  | .call c => (match c.callee, c.args.toList, c.argTypes[0]? with
    | .builtin .copy, [p, p'], some t => xB NG N p x && xB NG N p' y && elB P t z
    | _, _, _ => false)
  | _ => false)
theorem snd_cpy {z : Nat} {x y : X} {d : D} (h : okCpy P NG N o z x y d = true) : Snd P NG B0 N C o (.cpy z x y d) := fun c _ fr s => by
  simp only [okCpy, Bool.and_eq_true] at h
  obtain ⟨hd, h⟩ := h
  split at h
  case h_2 => cases h
  rename_i cl e'
  split at h
  case h_2 => cases h
  rename_i p p' t hc ha ht
  simp only [Bool.and_eq_true] at h
  obtain ⟨⟨hx, hy⟩, hel⟩ := h
  obtain ⟨el, q, v, hu, hq, hz, hsize, hzs, hpos, hby⟩ := elB_ok hel
  have hsz : (P.info? el).map (·.size) = some z := by rw [hq, ← hsize]; rfl
  show Ct (hCpy z x y d c fr s) _
  unfold hCpy
  refine Ct.cellsS fun n l hl => Ct.lenS fun m hm => Ct.strictN ?_
  rw [minN_eq]
  -- what the machine does
  have run : ∀ (a : Act) (w w' : World) (A : Option Addr) (cc : Nat) (B : Option Addr) (cd : Nat) (vs : List Value), a.eval p' = .slice A n cc → a.eval p = .slice B m cd → (Builtin.firstCells z (Nat.min n m) (.slice A n cc)).run P w = .ok vs.toArray w →
      (∀ y, B = some y → (storeCells y vs).run P w = .ok () w') → (B = none → w' = w) → (execOp a.eval o).run P w = .ok (.value (.int .i64 (Nat.min n m : Nat))) w' := fun a w w' A cc B cd vs h1 h2 h3 h4 h5 => by
    rw [ex_builtin e' hc, args2 a ha, h1, h2]
    refine run_v ?_
    simp only [Builtin.copy_, ht, List.getElem?_toArray, List.getElem?_cons_zero, List.getElem?_cons_succ, Sem.run_bind, run_und hu, Result.andThen_ok, Builtin.lenOf, Sem.run_pure, run_size hsz, h3, goInt]
    cases B with
    | none =>
      rw [h5 rfl]
      simp only [Sem.run_pure]
    | some y =>
      have := h4 y rfl
      simp only [Sem.run_bind, this, Result.andThen_ok, Sem.run_pure]
  have first : ∀ (r : Rho) (w : World) (a : Act), Base NG r → Sim B0 r s w → FrR N r fr a → ∃ (A : Option Addr) (cc : Nat) (vs : List Value), a.eval p' = .slice A n cc ∧ RelL r (takeL l (Nat.mul (Nat.min n m) z)) vs ∧ vs.length = Nat.min n m * z ∧ (Builtin.firstCells z (Nat.min n m) (.slice A n cc)).run P w = .ok vs.toArray w ∧ ∀ v ∈ vs, v.oneCell' = true := fun r w a hb hs hf => by
    obtain ⟨hone, A, cc, vs, e1, e2, e3, e4, e5⟩ := cellsOf_rel hl hs (xB_rel hy hb hf)
    have hle : Nat.min n m * z ≤ n * z := Nat.mul_le_mul_right z (Nat.min_le_left n m)
    have hlen : (vs.take (Nat.min n m * z)).length = Nat.min n m * z := by rw [List.length_take, e3]; omega
    refine ⟨A, cc, vs.take (Nat.min n m * z), e1, takeL_rel _ e2, hlen, ?_, fun v hv => ones_rel hone e2 v (List.mem_of_mem_take hv)⟩
    cases A with
    | none =>
      have : n = 0 := by
        rcases Nat.eq_zero_or_pos n with h | h
        · exact h
        · exact absurd rfl (e5 h)
      subst this
      have : vs = [] := List.length_eq_zero_iff.1 (by rw [e3]; omega)
      subst this
      rw [List.take_nil]
      exact run_firstCells_none w z _ 0 cc
    | some y =>
      refine run_firstCells_some w z (Nat.min n m) y n cc _ hlen fun j u hj => ?_
      have hj' : vs[j]? = some u := by
        have hlt := (List.getElem?_eq_some_iff.1 hj).1
        rw [hlen] at hlt
        rwa [List.getElem?_take_of_lt hlt] at hj
      obtain ⟨y', h1, h2⟩ := e4 j u hj'
      cases h1
      exact h2
  refine Ct.overS (fun h0 => ?_) fun b qo len cp ex cs hpos' hxe hcs hall => ?_
  · refine Ct.fin (do_pure hd fun r w a hb hs hf => ?_)
    obtain ⟨A, cc, vs, e1, e2, e3, e4, e5⟩ := first r w a hb hs hf
    have : vs = [] := List.length_eq_zero_iff.1 (by rw [e3, h0]; omega)
    subst this
    have hr := xB_rel hx hb hf
    have hB : ∃ B cd, a.eval p = .slice B m cd := by
      rcases hm with ⟨e, rfl⟩ | ⟨b, q', z', cp, ex, e⟩
      · rw [e] at hr; exact ⟨none, 0, hr⟩
      · rw [e] at hr; obtain ⟨_, x0, c0, hv, _⟩ := hr; exact ⟨_, c0, hv⟩
    obtain ⟨B, cd, hB⟩ := hB
    exact ⟨_, run a w w A cc B cd [] e1 hB e4 (fun y _ => rfl) (fun _ => rfl), rfl⟩
  · refine Ct.fin (do_val hd fun r w a hb hs hf => ?_)
    obtain ⟨A, cc, vs, e1, e2, e3, e4, e5⟩ := first r w a hb hs hf
    have hr := xB_rel hx hb hf
    rw [hxe] at hr
    obtain ⟨hbn, x0, c0, hv, hx0, hcap, hexc, hlc, htot⟩ := hr
    have hlm : len = m := by
      rcases hm with ⟨e, _⟩ | ⟨b', q', z', cp', ex', e⟩
      · rw [e] at hxe; cases hxe
      · rw [e] at hxe; cases hxe; rfl
    subst hlm
    have hx1 : x0 = r.off b + qo := hx0 (by have : Nat.min n len ≤ len := Nat.min_le_right n len; omega)
    obtain ⟨_, rcs, t', f', hh, hzz, hcc, hfz⟩ := row_of hs (.inr hcs)
    obtain ⟨us, v1, v2, v3⟩ := getL_rel hcc _ qo hall
    have hroom : ∀ j, j < vs.length → ∃ v, rcs[r.off b + qo + j]? = some v := fun j hj => by
      obtain ⟨u, _, u2⟩ := v3 j (by rw [← e3]; exact hj)
      exact ⟨u, u2⟩
    obtain ⟨s1, s2⟩ := put_ok hs hcs (q := qo) e2 (fun j hj => by
      obtain ⟨v, hv⟩ := hroom j hj
      exact ⟨_, _, _, v, hh, hv⟩)
    refine ⟨_, _, r, run a w _ A cc _ c0 vs e1 hv e4 (fun y hy' => ?_) (fun h => by cases h), rfl, s1, s2⟩
    cases hy'
    rw [hx1]
    exact run_put hh hfz hroom e5
end
end Go.Proofs.YtenpbpgoglepfaaGreatDoor
namespace Go.Proofs.YtenpbpgoglepfaaGreatDoor
open Go.RowKit
set_option linter.unusedVariables false

/-- A call of a function of the program, or of one whose word is a row of the model's: it answers. -/
def CallsF (P : Program) (g : FuncId) (args : Array Value) (w : World) (R : Value → World → Prop) : Prop :=
  ((callFunc g args).run P w = .ok (.enter g args) w ∧ Calls P g args w (fun e w' => ∃ v, e = .returned v ∧ R v w')) ∨ ∃ v w', (callFunc g args).run P w = .ok (.value v) w' ∧ R v w'
section
variable {P : Program} {NG : Env} {B0 N : Nat} {o : Oper} {E : Fr → St → Prop}
/-- What is known of the calls. -/
def COk (P : Program) (NG : Env) (B0 : Nat) (c : CallE) : Prop := ∀ g ar s v s', g < yN → c g ar s = .ok v s' → ∀ (r : Rho) (w : World) (args : Array Value), Base NG r → Sim B0 r s w → RelL r ar args.toList →
  CallsF P g args w fun x w' => ∃ r', Rel r' v x ∧ Sim B0 r' s' w' ∧ Stp r s w r' s' w'
theorem do_call {d : D} (hd : dB o.dst d = true) {fr : Fr} {s s' : St} {v : AV}
    (h : ∀ (r : Rho) (w : World) (a : Act), Base NG r → Sim B0 r s w → FrR N r fr a → ∃ g args, (execOp a.eval o).run P w = (callFunc g args).run P w ∧ CallsF P g args w fun x w' => ∃ r', Rel r' v x ∧ Sim B0 r' s' w' ∧ Stp r s w r' s' w') :
    OpDo P NG B0 N o fr s (D.put d v fr) s' := fun r w a hb hs hf Q K hK => by
  obtain ⟨g, args, e, hc⟩ := h r w a hb hs hf
  unfold Oper.wp
  rw [e]
  rcases hc with ⟨e1, hc⟩ | ⟨x, w', e1, r', h1, h2, h3⟩
  · rw [e1, Oper.upon_enter]
    refine hc.mono fun e w' => ?_
    rintro ⟨x, rfl, r', h1, h2, h3⟩
    exact hK _ _ r' h2 h3 ((hf.le h3.le).put hd h1) (put_dfr _ _ _)
  · rw [e1]
    exact hK _ _ r' h2 h3 ((hf.le h3.le).put hd h1) (put_dfr _ _ _)
theorem Ct.onRC {x : RC} {f : AV → St → K → R} (h : ∀ v s, x = .ok v s → Ct (f v s) E) : Ct (fun k => Go.Proofs.YtenpbpgoglepfaaGreatDoor.onRC x fun v s => f v s k) E := by
  cases x with
  | bad => exact Ct.bad
  | ok v s => exact h v s rfl
noncomputable def okCall (NG N : Nat) (o : Oper) (g : Nat) (as_ : List X) (d : D) : Bool := dB o.dst d && (match o.op with
  | .call c => (match c.callee with | .value (.func f) => Nat.beq f g && Nat.blt g yN && xsB NG N c.args.toList as_ | _ => false)
  | _ => false)
theorem snd_call {g : Nat} {as_ : List X} {d : D} (h : okCall NG N o g as_ d = true) : Snd P NG B0 N (COk P NG B0) o (.call g as_ d) := fun c hc fr s => by
  simp only [okCall, Bool.and_eq_true] at h
  obtain ⟨hd, h⟩ := h
  split at h
  case h_2 => cases h
  rename_i cl e'
  split at h
  case h_2 => cases h
  rename_i f hcl
  simp only [Bool.and_eq_true] at h
  obtain rfl := Nat.eq_of_beq_eq_true h.1.1
  have hlt : f < yN := by have := h.1.2; rwa [blt_eq, decide_eq_true_iff] at this
  show Ct (hCall f as_ d c fr s) _
  unfold hCall
  refine Ct.onRC fun v s' e => Ct.fin (do_call hd fun r w a hb hs hf => ⟨f, cl.args.map a.eval, ?_, ?_⟩)
  · rw [ex_call e']
    unfold resolve
    rw [hcl]
    show (callFunc f ((#[] ++ cl.args.map a.eval) ++ #[])).run P w = _
    rw [Array.append_empty, Array.empty_append]
  · exact hc _ _ _ _ _ hlt e r w _ hb hs (by rw [Array.toList_map]; exact xsB_rel hb hf h.2)
noncomputable def okCald (NG N : Nat) (o : Oper) (x : X) (as_ : List X) (d : D) : Bool := dB o.dst d && (match o.op with
  | .call c => (match c.callee with | .value p => xB NG N p x && xsB NG N c.args.toList as_ | _ => false)
  | _ => false)
theorem snd_cald {x : X} {as_ : List X} {d : D} (h : okCald NG N o x as_ d = true) : Snd P NG B0 N (COk P NG B0) o (.cald x as_ d) := fun c hc fr s => by
  simp only [okCald, Bool.and_eq_true] at h
  obtain ⟨hd, h⟩ := h
  split at h
  case h_2 => cases h
  rename_i cl e'
  split at h
  case h_2 => cases h
  rename_i p hcl
  simp only [Bool.and_eq_true] at h
  show Ct (hCald x as_ d c fr s) _
  unfold hCald
  refine Ct.onF fun g fs cs ex => Ct.must fun hlt => Ct.onRC fun v s' e => Ct.fin (do_call hd fun r w a hb hs hf => ?_)
  have hr := xB_rel h.1 hb hf
  rw [ex] at hr
  obtain ⟨first, cap, hv, h1, h2⟩ := hr
  refine ⟨g, (first ++ cl.args.map a.eval) ++ cap, ?_, ?_⟩
  · rw [ex_call e']
    unfold resolve
    rw [hcl]
    show (do let d ← Deferred.ofValue (a.eval p) (cl.args.map a.eval); invoke d.target d.args : Sem Next).run P w = _
    rw [hv]
    rfl
  · refine hc _ _ _ _ _ (by rwa [blt_eq, decide_eq_true_iff] at hlt) e r w _ hb hs ?_
    rw [Array.toList_append, Array.toList_append, List.append_assoc, Array.toList_map]
    exact app_rel h1 (app_rel (xsB_rel hb hf h.2) h2)
/-- The methods that are told: type, name, function. -/
abbrev Mt := List (Nat × String × Nat)
def MtOk (P : Program) (mt : Mt) : Prop := ∀ t n g, (t, n, g) ∈ mt → ∀ v w, (Go.method (P.types.size + Made.depth) t v n).run P w = .ok (g, v) w
noncomputable def okInv (NG N : Nat) (mt : Mt) (o : Oper) (tb : List (Nat × Nat)) (x : X) (as_ : List X) (d : D) : Bool := dB o.dst d && (match o.op with
  | .call c => (match c.callee with | .invoke p n => xB NG N p x && xsB NG N c.args.toList as_ && tb.all (fun q => mt.contains (q.1, n, q.2) && Nat.blt q.2 yN) | _ => false)
  | _ => false)
theorem findT_mem {t g : Nat} : ∀ {tb : List (Nat × Nat)}, findT t tb = some g → (t, g) ∈ tb
  | [], h => by cases h
  | (a, b) :: l, h => by
    unfold findT at h
    split at h
    · rename_i e
      cases h
      obtain rfl := beq_iff_eq.1 e
      simp
    · exact List.mem_cons_of_mem _ (findT_mem h)
theorem snd_inv {mt : Mt} (hmt : MtOk P mt) {tb : List (Nat × Nat)} {x : X} {as_ : List X} {d : D} (h : okInv NG N mt o tb x as_ d = true) : Snd P NG B0 N (COk P NG B0) o (.inv tb x as_ d) := fun c hc fr s => by
  simp only [okInv, Bool.and_eq_true] at h
  obtain ⟨hd, h⟩ := h
  split at h
  case h_2 => cases h
  rename_i cl e'
  split at h
  case h_2 => cases h
  rename_i p n hcl
  simp only [Bool.and_eq_true] at h
  obtain ⟨⟨hx, has⟩, htb⟩ := h
  show Ct (hInv tb x as_ d c fr s) _
  unfold hInv
  refine Ct.onIfc fun t v ex => ?_
  rcases hg : findT t tb with _ | g
  · exact Ct.bad
  refine Ct.onRC fun v' s' e => Ct.fin (do_call hd fun r w a hb hs hf => ?_)
  have hr := xB_rel hx hb hf
  rw [ex] at hr
  obtain ⟨y, hv, h1⟩ := hr
  have hmem : (t, n, g) ∈ mt := by
    have := List.all_eq_true.1 htb _ (findT_mem hg)
    simp only [Bool.and_eq_true, blt_eq, decide_eq_true_iff] at this
    simpa using this.1
  have hlt : g < yN := by
    have := List.all_eq_true.1 htb _ (findT_mem hg)
    simp only [Bool.and_eq_true, blt_eq, decide_eq_true_iff] at this
    exact this.2
  refine ⟨g, #[y] ++ cl.args.map a.eval, ?_, ?_⟩
  · rw [ex_call e']
    unfold resolve
    rw [hcl]
    show (invoke (.fn (.method n) #[]) (#[a.eval p] ++ cl.args.map a.eval)).run P w = _
    rw [hv]
    have e0 : (#[Value.iface t y] ++ cl.args.map a.eval)[0]? = some (.iface t y) := by rw [Array.getElem?_append_left (by simp)]; rfl
    have e1 : (#[Value.iface t y] ++ cl.args.map a.eval).extract 1 (#[Value.iface t y] ++ cl.args.map a.eval).size = cl.args.map a.eval := by
      apply Array.toList_inj.1
      simp
      exact List.take_of_length_le (by simp)
    unfold invoke
    simp only [e0, e1, callMethod, Sem.run_bind, run_program, Result.andThen_ok, hmt t n g hmem]
  · refine hc _ _ _ _ _ hlt e r w _ hb hs ?_
    rw [Array.toList_append, Array.toList_map]
    exact ⟨y, _, rfl, h1, xsB_rel hb hf has⟩
end
end Go.Proofs.YtenpbpgoglepfaaGreatDoor
namespace Go.Proofs.YtenpbpgoglepfaaGreatDoor
open Go.RowKit
set_option linter.unusedVariables false

/-- The fence that asks nothing; in a round of the loop ro. -/
def Wd (ro : Option Nat) : Fence := { fn := fun _ => True, depth := none, alive := false, round := ro }
theorem callsIn_wd {ro : Option Nat} {n : Nat} {P : Program} {f : FuncId} {args : Array Value} {w : World} {R : Ending → World → Prop} (h : Calls P f args w R) : CallsIn (Wd ro) n P f args w R := (callsIn_wide (n := n)).2 h
theorem rowsIn_wd {ro : Option Nat} {n : Nat} {P : Program} {row : String} {args : Array Value} {w : World} {R : Value → World → Prop} (h : Rows P row args w R) : RowsIn (Wd ro) n P row args w R := fun c cs _ => by
  obtain ⟨v, w', r, s⟩ := h c cs
  exact ⟨v, w', r, stepsIn_wide.2 s⟩
theorem oper_in {ro : Option Nat} {n : Nat} {P : Program} {o : Oper} {a : Act} {w : World} {K : Act → World → Prop} {Q : Exit → Act → World → Prop} (hd : ∀ c, o.op ≠ .defer c) (h : o.wp P a w K Q) : o.wpIn (Wd ro) n P a w K Q := by
  refine ⟨fun _ _ => trivial, ?_⟩
  rw [show (Wd ro).round = ro from rfl, Oper.semAt_eq ro a.eval o hd]
  unfold Oper.wp at h
  generalize (execOp a.eval o).run P w = x at h ⊢
  cases x with
  | ok n' w' =>
    cases n' <;> simp only [Oper.upon] at h <;> simp only [Oper.uponIn] <;>
      first
        | exact h
        | exact ⟨fun e => (by cases e), callsIn_wd h⟩
        | exact ⟨fun e => (by cases e), rowsIn_wd h⟩
        | exact h.elim
  | halt x w' => cases x <;> simp only [Oper.upon] at h <;> simp only [Oper.uponIn] <;> first | exact h | exact h.elim
/-- The deferred calls of an activation are blocks that loops over functions have left (from block lo on): empty ones, of nobody. -/
structure DfOk (lo : Nat) (r : Rho) (s : St) (w : World) (l : List Deferred) : Prop where
  hlo : lo ≤ w.heap.size
  all : ∀ d ∈ l, ∃ D, d = { target := .collected D, args := #[] } ∧ lo ≤ D ∧ w.heap[D]? = some (.deferred (some [])) ∧ ∀ b, (Hp.get s.h b).live → r.blk b ≠ D
  ne : l.Nodup
theorem DfOk.nil {lo : Nat} {r : Rho} {s : St} {w : World} (h : lo ≤ w.heap.size) : DfOk lo r s w [] := ⟨h, fun d hd => (by cases hd), List.nodup_nil⟩
theorem DfOk.stp {lo : Nat} {r r' : Rho} {s s' : St} {w w' : World} {l : List Deferred} (h : DfOk lo r s w l) (k : Stp r s w r' s' w') : DfOk lo r' s' w' l := ⟨Nat.le_trans h.hlo k.size, fun d hd => by
  obtain ⟨D, h1, h0, h2, h3⟩ := h.all d hd
  have hlt := (Array.getElem?_eq_some_iff.1 h2).1
  refine ⟨D, h1, h0, (k.keep D hlt h3).trans h2, fun b hb e => ?_⟩
  rcases k.old b hb with ⟨a, ha, e'⟩ | h'
  · exact h3 a ha (e'.trans e)
  · omega, h.ne⟩

section
variable {P : Program} {NG : Env} {B0 N : Nat} {ro : Option Nat} {E : Fr → St → Prop} {C : CallE → Prop}
theorem Ct.bind {f : K → R} {g : Fr → St → K → R} {E' : Fr → St → Prop} (h : Ct f E') (hg : ∀ fr s, E' fr s → Ct (g fr s) E) : Ct (fun k => f fun fr s => g fr s k) E := by
  rcases h with h | ⟨fr, s, h, he⟩
  · exact .inl fun k => h _
  · rcases hg fr s he with h' | ⟨fr', s', h', he'⟩
    · exact .inl fun k => (h _).trans (h' k)
    · exact .inr ⟨fr', s', fun k => (h _).trans (h' k), he'⟩
/-- What an operation does, in a round or in none. -/
def OpI (P : Program) (NG : Env) (B0 N : Nat) (ro : Option Nat) (o : Oper) (fr : Fr) (s : St) (fr' : Fr) (s' : St) : Prop :=
  ∀ (r : Rho) (w : World) (a : Act), Base NG r → Sim B0 r s w → FrR N r fr a → ∀ (Q : Exit → Act → World → Prop) (K : Act → World → Prop),
    (∀ a' w' r', Sim B0 r' s' w' → Stp r s w r' s' w' → FrR N r' fr' a' → a'.defers = a.defers → K a' w') → o.wpIn (Wd ro) 0 P a w K Q
def SndI (P : Program) (NG : Env) (B0 N : Nat) (C : CallE → Prop) (ro : Option Nat) (o : Oper) (i : I) : Prop :=
  ∀ c, C c → ∀ fr s, Ct (evI i c fr s) (OpI P NG B0 N ro o fr s)
def noDf (o : Oper) : Bool := match o.op with | .defer _ => false | _ => true
theorem noDf_eq {o : Oper} (h : noDf o = true) : ∀ c, o.op ≠ .defer c := fun c e => by rw [noDf, e] at h; cases h
theorem Snd.toI {o : Oper} {i : I} (hd : noDf o = true) (h : Snd P NG B0 N C o i) : SndI P NG B0 N C ro o i := fun c hc fr s =>
  (h c hc fr s).mono fun fr' s' hdo r w a hb hs hf Q K hK => oper_in (noDf_eq hd) (hdo r w a hb hs hf Q K hK)
/-- What the i-th operation of a region does. -/
def OpG (P : Program) (NG : Env) (B0 N : Nat) (ro : Option Nat) (ops : Array Oper) (i : Nat) (fr : Fr) (s : St) (fr' : Fr) (s' : St) : Prop :=
  ∀ (r : Rho) (w : World) (a : Act), Base NG r → Sim B0 r s w → FrR N r fr a → ∀ (Q : Exit → Act → World → Prop) (K : Act → World → Prop),
    (∀ a' w' r', Sim B0 r' s' w' → Stp r s w r' s' w' → FrR N r' fr' a' → a'.defers = a.defers → K a' w') → wpOpIn (Wd ro) 0 P ops Q i K a w
/-- Does an instruction stand for an operation of a region, by a check of plain ones? -/
noncomputable def okG (ck : Oper → I → Bool) (N : Nat) (ops : Array Oper) (o : Oper) (i : I) : Bool :=
  match o.guard with
  | none => ck o i
  | some (j, b) => (match i with
    | .gd h l b' i' d => ck o i' && (b == b') && dB o.dst d && (match (ops[j]?).bind (·.dst) with | some t => t == slotN h l && decide (t < N) | none => false)
    | _ => false)
theorem snd_g {ck : Oper → I → Bool} (hck : ∀ o i, ck o i = true → SndI P NG B0 N C ro o i) {ops : Array Oper} {k : Nat} {o : Oper} {i : I} (ho : ops[k]? = some o) (h : okG ck N ops o i = true) {c : CallE} (hc : C c) (fr : Fr) (s : St) :
    Ct (evI i c fr s) (OpG P NG B0 N ro ops k fr s) := by
  unfold okG at h
  split at h
  · rename_i hg
    refine (hck o i h c hc fr s).mono fun fr' s' hd r w a hb hs hf Q K hK => ?_
    unfold wpOpIn
    rw [ho]
    simp only [Region.wanted, hg, if_true]
    exact hd r w a hb hs hf Q K hK
  · rename_i j b hg
    split at h
    case h_2 => cases h
    rename_i x y b' i' d
    simp only [Bool.and_eq_true] at h
    obtain ⟨⟨⟨h1, h2⟩, h3⟩, h4⟩ := h
    obtain rfl := beq_iff_eq.1 h2
    split at h4
    case h_2 => cases h4
    rename_i t ht
    simp only [Bool.and_eq_true, beq_iff_eq, decide_eq_true_eq] at h4
    have hy : ∀ (r : Rho) (a : Act) (v : Bool), FrR N r fr a → F.get y (F.get x fr) = .b v → yielded ops a.tmps j = some v := fun r a v hf e => by
      have hlt : t < a.tmps.size := by rw [hf.size]; exact h4.2
      have := hf.get x y _ (by rw [← h4.1]; exact Array.getElem?_eq_getElem hlt)
      rw [e] at this
      simp only [Rel] at this
      unfold yielded
      rw [ht]
      simp only [Option.bind_some, Array.getElem?_eq_getElem hlt, this]
    show Ct (hGd x y b i' d (evI i') c fr s) _
    unfold hGd
    refine Ct.onB fun v e => Ct.ite (fun hv => ?_) fun hv => ?_
    · refine (hck o i' h1 c hc fr s).mono fun fr' s' hd r w a hb hs hf Q K hK => ?_
      unfold wpOpIn
      rw [ho]
      have hvb : v = b := by cases v <;> cases b <;> first | rfl | cases hv
      have hw : Region.wanted o (yielded ops a.tmps) = true := by
        simp only [Region.wanted, hg, hy r a v hf e, hvb, beq_self_eq_true]
      simp only [hw, if_true]
      exact hd r w a hb hs hf Q K hK
    · refine Ct.fin fun r w a hb hs hf Q K hK => ?_
      unfold wpOpIn
      rw [ho]
      have hw : Region.wanted o (yielded ops a.tmps) = false := by
        simp only [Region.wanted, hg, hy r a v hf e]
        cases v <;> cases b <;> first | rfl | cases hv
      simp only [hw, Bool.false_eq_true, if_false]
      exact ⟨fun _ _ => trivial, hK _ _ r hs (.refl r s w) (hf.put h3 trivial) (put_dfr _ _ _)⟩
noncomputable def okL (ck : Oper → I → Bool) (N : Nat) (ops : Array Oper) : List Oper → List I → Bool
  | [], [] => true
  | o :: os, i :: l => okG ck N ops o i && okL ck N ops os l
  | _, _ => false
/-- What a region's operations do, from the k-th on. -/
def OpsDo (P : Program) (NG : Env) (B0 N : Nat) (ro : Option Nat) (ops : Array Oper) (k n : Nat) (fr : Fr) (s : St) (fr' : Fr) (s' : St) : Prop :=
  ∀ (r : Rho) (w : World) (a : Act), Base NG r → Sim B0 r s w → FrR N r fr a → ∀ (Q : Exit → Act → World → Prop),
    (∀ a' w' r', Sim B0 r' s' w' → Stp r s w r' s' w' → FrR N r' fr' a' → a'.defers = a.defers → Q .normal a' w') → wpOpsIn (Wd ro) 0 P ops Q (List.range' k n) a w
theorem snd_l {ck : Oper → I → Bool} (hck : ∀ o i, ck o i = true → SndI P NG B0 N C ro o i) {ops : Array Oper} {c : CallE} (hc : C c) : ∀ {os : List Oper} {l : List I} (k : Nat) (fr : Fr) (s : St), okL ck N ops os l = true → ops.toList.drop k = os →
    Ct (evL l c fr s) (OpsDo P NG B0 N ro ops k os.length fr s)
  | [], [], k, fr, s, _, _ => Ct.fin fun r w a hb hs hf Q hK => hK a w r hs (.refl r s w) hf rfl
  | o :: os, i :: l, k, fr, s, h, hd => by
    simp only [okL, Bool.and_eq_true] at h
    have hk : k < ops.toList.length := by
      rcases Nat.lt_or_ge k ops.toList.length with h | h
      · exact h
      · rw [List.drop_eq_nil_of_le h] at hd; cases hd
    rw [List.drop_eq_getElem_cons hk] at hd
    obtain ⟨e1, e2⟩ := List.cons.inj hd
    have ho : ops[k]? = some o := by
      rw [← Array.getElem?_toList, List.getElem?_eq_getElem hk, e1]
    show Ct (fun K => evI i c fr s fun fr s => evL l c fr s K) _
    refine Ct.bind (snd_g hck ho h.1 hc fr s) fun fr' s' hop => (snd_l hck hc (k + 1) fr' s' h.2 e2).mono fun fr2 s2 hdo r w a hb hs hf Q hK => ?_
    rw [List.length_cons, List.range'_succ, wpOpsIn_cons]
    exact hop r w a hb hs hf Q _ fun a' w' r' h1 h2 h3 h4 => hdo r' w' a' (hb.le h2.le) h1 h3 Q fun a2 w2 r2 k1 k2 k3 k4 => hK a2 w2 r2 k1 (h2.trans k2) k3 (k4.trans h4)
  | [], _ :: _, _, _, _, h, _ => by cases h
  | _ :: _, [], _, _, _, h, _ => by cases h

/-- What holds behind code, if the evaluator told what it does. -/
def Post (B0 N lo : Nat) (r : Rho) (s : St) (w : World) (out : R) (Q : Exit → Act → World → Prop) : Prop :=
  match out with
  | .bad => False
  | .nrm fr' s' => ∀ a' w' r', Sim B0 r' s' w' → Stp r s w r' s' w' → FrR N r' fr' a' → DfOk lo r' s' w' a'.defers → Q .normal a' w'
  | .ex id fr' s' => ∀ a' w' r', Sim B0 r' s' w' → Stp r s w r' s' w' → FrR N r' fr' a' → DfOk lo r' s' w' a'.defers → Q (.exit id) a' w'
  | .rt fr' s' => ∀ a' w' r', Sim B0 r' s' w' → Stp r s w r' s' w' → FrR N r' fr' a' → DfOk lo r' s' w' a'.defers → Q .ret a' w'
theorem Post.later {lo : Nat} {r r' : Rho} {s s' : St} {w w' : World} {out : R} {Q : Exit → Act → World → Prop} (h : Post B0 N lo r s w out Q) (k : Stp r s w r' s' w') : Post B0 N lo r' s' w' out Q := by
  cases out with
  | bad => exact h
  | nrm fr2 s2 => exact fun a2 w2 r2 h1 h2 h3 h4 => h a2 w2 r2 h1 (k.trans h2) h3 h4
  | ex id fr2 s2 => exact fun a2 w2 r2 h1 h2 h3 h4 => h a2 w2 r2 h1 (k.trans h2) h3 h4
  | rt fr2 s2 => exact fun a2 w2 r2 h1 h2 h3 h4 => h a2 w2 r2 h1 (k.trans h2) h3 h4
/-- Code of the evaluator stands for code. -/
def CSnd (P : Program) (NG : Env) (B0 N : Nat) (C : CallE → Prop) (ro : Option Nat) (x : Code) (q : Go.Proofs.YtenpbpgoglepfaaGreatDoor.C) : Prop :=
  ∀ c, C c → ∀ fr s (r : Rho) (w : World) (a : Act) (lo : Nat), Base NG r → Sim B0 r s w → FrR N r fr a → DfOk lo r s w a.defers → ∀ Q, Post B0 N lo r s w (evC q c fr s) Q → x.wpIn (Wd ro) 0 P Q a w
theorem Post.of_ct {lo : Nat} {r : Rho} {s : St} {w : World} {f : K → R} {D : Fr → St → Prop} {Q : Exit → Act → World → Prop} (h : Ct f D) (hp : Post B0 N lo r s w (f .nrm) Q) : ∃ fr' s', D fr' s' ∧ ∀ a' w' r', Sim B0 r' s' w' → Stp r s w r' s' w' → FrR N r' fr' a' → DfOk lo r' s' w' a'.defers → Q .normal a' w' := by
  rcases h with h | ⟨fr', s', h, hd⟩
  · rw [h] at hp; exact hp.elim
  · rw [h] at hp; exact ⟨fr', s', hd, hp⟩
theorem csnd_ops {ck : Oper → I → Bool} (hck : ∀ o i, ck o i = true → SndI P NG B0 N C ro o i) {id : Nat} {ops : Array Oper} {l : List I} (h : okL ck N ops ops.toList l = true) : CSnd P NG B0 N C ro (.region id ops false) (.ops l) := fun c hc fr s r w a lo hb hs hf hdf Q hp => by
  obtain ⟨fr', s', hd, hq⟩ := Post.of_ct (snd_l hck hc 0 fr s h rfl) hp
  refine wpIn_region ?_
  have := hd r w a hb hs hf Q fun a' w' r' h1 h2 h3 h4 => hq a' w' r' h1 h2 h3 (by rw [h4]; exact hdf.stp h2)
  rw [Array.length_toList] at this
  rwa [List.range_eq_range']
theorem csnd_seq {x y : Code} {p q : Go.Proofs.YtenpbpgoglepfaaGreatDoor.C} (h : CSnd P NG B0 N C ro x p) (k : CSnd P NG B0 N C ro y q) : CSnd P NG B0 N C ro (.seq x y) (.seq p q) := fun c hc fr s r w a lo hb hs hf hdf Q hp => by
  refine wpIn_seq (h c hc fr s r w a lo hb hs hf hdf _ ?_)
  have e : evC (.seq p q) c fr s = onN (evC p c fr s) (evC q c) := rfl
  rw [e] at hp
  generalize evC p c fr s = out at hp
  cases out with
  | bad => exact hp
  | nrm fr' s' => exact fun a' w' r' h1 h2 h3 h4 => k c hc fr' s' r' w' a' lo (hb.le h2.le) h1 h3 h4 Q (Post.later hp h2)
  | ex id fr' s' => exact hp
  | rt fr' s' => exact hp
theorem csnd_cnd {v : Operand} {x y : Code} {t : X} {p q : Go.Proofs.YtenpbpgoglepfaaGreatDoor.C} (hv : xB NG N v t = true) (h : CSnd P NG B0 N C ro x p) (k : CSnd P NG B0 N C ro y q) : CSnd P NG B0 N C ro (.cond v x y) (.cnd t p q) := fun c hc fr s r w a lo hb hs hf hdf Q hp => by
  have e : evC (.cnd t p q) c fr s = AV.onB (X.ev t fr) .bad fun t => ifB t (evC p c fr s) (evC q c fr s) := rfl
  rw [e] at hp
  have hr := xB_rel hv hb hf
  cases ht : X.ev t fr <;> rw [ht] at hp hr <;> try exact hp.elim
  rename_i b
  simp only [Rel] at hr
  refine wpIn_cond hr ?_
  cases b
  · exact k c hc fr s r w a lo hb hs hf hdf Q hp
  · exact h c hc fr s r w a lo hb hs hf hdf Q hp
theorem csnd_blk {id : Nat} {x : Code} {p : Go.Proofs.YtenpbpgoglepfaaGreatDoor.C} (h : CSnd P NG B0 N C ro x p) : CSnd P NG B0 N C ro (.block id x) (.blk id p) := fun c hc fr s r w a lo hb hs hf hdf Q hp => by
  refine wpIn_block (h c hc fr s r w a lo hb hs hf hdf _ ?_)
  have e : evC (.blk id p) c fr s = onX (evC p c fr s) id := rfl
  rw [e] at hp
  generalize evC p c fr s = out at hp
  cases out with
  | bad => exact hp
  | nrm fr' s' => exact hp
  | rt fr' s' => exact hp
  | ex j fr' s' =>
    intro a' w' r' h1 h2 h3 h4
    have e2 : onX (.ex j fr' s') id = ifB (Nat.beq j id) (.nrm fr' s') (.ex j fr' s') := rfl
    rw [e2] at hp
    show (if j = id then Q .normal a' w' else Q (.exit j) a' w')
    rcases hj : Nat.beq j id with _ | _
    · rw [if_neg (fun e => by rw [e, Nat.beq_refl] at hj; cases hj)]
      rw [hj] at hp
      exact hp a' w' r' h1 h2 h3 h4
    · rw [if_pos (Nat.eq_of_beq_eq_true hj)]
      rw [hj] at hp
      exact hp a' w' r' h1 h2 h3 h4
theorem csnd_loop {x : Code} {p : Go.Proofs.YtenpbpgoglepfaaGreatDoor.C} (h : CSnd P NG B0 N C ro x p) : CSnd P NG B0 N C ro (.loop x) (.loop p) := fun c hc fr s r w a lo hb hs hf hdf Q hp => by
  have key : ∀ n fr s (r : Rho) (w : World) (a : Act), Base NG r → Sim B0 r s w → FrR N r fr a → DfOk lo r s w a.defers → Post B0 N lo r s w (rounds (evC p c) n fr s) Q → Code.roundsIn (Wd ro) 0 P x Q n a w := by
    intro n
    induction n with
    | zero => intro fr s r w a _ _ _ _ hp; exact hp.elim
    | succ n ih =>
      intro fr s r w a hb hs hf hdf hp
      rw [roundsIn_succ]
      refine h c hc fr s r w a lo hb hs hf hdf _ ?_
      have e : rounds (evC p c) (n + 1) fr s = onN (evC p c fr s) (rounds (evC p c) n) := rfl
      rw [e] at hp
      generalize evC p c fr s = out at hp
      cases out with
      | bad => exact hp
      | nrm fr' s' => exact fun a' w' r' h1 h2 h3 h4 => ih fr' s' r' w' a' (hb.le h2.le) h1 h3 h4 (Post.later hp h2)
      | ex id fr' s' => exact hp
      | rt fr' s' => exact hp
  exact wpIn_loop_rounds 100000 (key 100000 fr s r w a hb hs hf hdf hp)
theorem csnd_skip : CSnd P NG B0 N C ro .skip .skip := fun c hc fr s r w a lo hb hs hf hdf Q hp => wpIn_skip (hp a w r hs (.refl r s w) hf hdf)
theorem csnd_ex {id : Nat} : CSnd P NG B0 N C ro (.exit id) (.ex id) := fun c hc fr s r w a lo hb hs hf hdf Q hp => wpIn_exit (hp a w r hs (.refl r s w) hf hdf)
theorem csnd_ret : CSnd P NG B0 N C ro .ret .ret := fun c hc fr s r w a lo hb hs hf hdf Q hp => wpIn_ret (hp a w r hs (.refl r s w) hf hdf)
theorem csnd_bad {x : Code} {d : D} {l : List I} : CSnd P NG B0 N C ro x (.ops (.nlc (.k .np) d :: l)) := fun c hc fr s r w a lo hb hs hf hdf Q hp => hp.elim
end
end Go.Proofs.YtenpbpgoglepfaaGreatDoor
namespace Go.Proofs.YtenpbpgoglepfaaGreatDoor
open Go.RowKit
set_option linter.unusedVariables false

section
variable {P : Program} {NG : Env} {B0 N : Nat} {C : CallE → Prop} {o : Oper}
/-- What the type of a plain error is. -/
structure EqT (P : Program) : Prop where
  ptr : ∃ te i j, P.underlying eqT = some (.pointer te) ∧ P.info? eqT = some i ∧ i.comparable = true ∧ P.info? te = some j ∧ j.size ≠ 0
def eqOp (g : Bool) : BinOp := if g then .eql else .neq
noncomputable def kindB (P : Program) (u t : Nat) (p' : Operand) : Bool := match P.underlying u, t with
  | some .bool, 0 => true | some .string, 1 => true | some (.pointer _), 2 => true | some (.slice _), 3 => true | some (.map _ _), 4 => true | some (.func ..), 5 => true | some (.interface _), 6 => true
  | some (.interface _), 7 => (match p' with | .const _ => true | _ => false)
  | _, _ => false
theorem run_eqn {w : World} {u : TypeId} {p p' : Operand} {x y : Value} {b g : Bool} (hg : (eqGuard (eqOp g) u p p' x y).run P w = .ok () w) (he : (Op.equal u x y).run P w = .ok b w)
    (h1 : binOp .eql u x y = (do pure (.bool (← Op.equal u x y)))) (h2 : binOp .neq u x y = (do pure (.bool (!(← Op.equal u x y))))) :
    (do eqGuard (eqOp g) u p p' x y; binOp (eqOp g) u x y : Sem Value).run P w = .ok (.bool (eqB b g)) w := by
  rw [Sem.run_bind, hg]
  cases g
  · show (binOp .neq u x y).run P w = _
    rw [h2, Sem.run_bind, he]
    cases b <;> rfl
  · show (binOp .eql u x y).run P w = _
    rw [h1, Sem.run_bind, he]
    cases b <;> rfl
theorem guard_one {w : World} {u : TypeId} {p p' : Operand} {x y : Value} {g : Bool} (hx : x ≠ .nilIface ∨ y ≠ .nilIface) (hx2 : ∀ a, x ≠ .agg a) : (eqGuard (eqOp g) u p p' x y).run P w = .ok () w := by
  unfold eqGuard
  cases g <;> (cases x <;> first | rfl | (exact absurd rfl (hx2 _)) | (cases y <;> first | rfl | (rcases hx with h | h <;> exact absurd rfl h)))
theorem kind_ok {u t : Nat} {p' : Operand} (h : kindB P u t p' = true) : (t = 0 ∧ P.underlying u = some .bool) ∨ (t = 1 ∧ P.underlying u = some .string) ∨ (t = 2 ∧ ∃ e, P.underlying u = some (.pointer e)) ∨ (t = 3 ∧ ∃ e, P.underlying u = some (.slice e)) ∨ (t = 4 ∧ ∃ k e, P.underlying u = some (.map k e)) ∨
    (t = 5 ∧ ∃ a b c, P.underlying u = some (.func a b c)) ∨ (t = 6 ∧ ∃ m, P.underlying u = some (.interface m)) ∨ (t = 7 ∧ (∃ m, P.underlying u = some (.interface m)) ∧ ∃ v, p' = .const v) := by
  unfold kindB at h
  split at h
  all_goals try (rename_i e; simp [e]; done)
  · rename_i m e
    split at h
    · simp [e]
    · cases h
  · cases h
theorem eqv_str {w : World} {u : TypeId} {p p' : Operand} {s1 s2 : ByteArray} {l1 l2 : List Nat} {g : Bool} (h1 : s1.data.toList.map (fun b => b.toNat) = l1) (h2 : s2.data.toList.map (fun b => b.toNat) = l2) :
    (do eqGuard (eqOp g) u p p' (.string s1) (.string s2); binOp (eqOp g) u (.string s1) (.string s2) : Sem Value).run P w = .ok (.bool (eqB (l1 == l2) g)) w := by
  have e : (s1.toList == s2.toList) = (l1 == l2) := by
    have hinj : ∀ (a b : List UInt8), a.map (fun b => b.toNat) = b.map (fun b => b.toNat) → a = b := fun a b h => by
      have := List.map_inj_right (f := fun b : UInt8 => b.toNat) (fun x y h => UInt8.toNat_inj.1 h) (l := a) (l' := b)
      exact this.1 h
    rw [ByteArray.toList_eq, ByteArray.toList_eq, Bool.eq_iff_iff, beq_iff_eq, beq_iff_eq, ← h1, ← h2]
    exact ⟨fun h => by rw [h], hinj _ _⟩
  rw [Sem.run_bind, guard_one (.inl (by simp)) (by simp)]
  cases g
  · show (Op.stringOp .neq s1 s2).run P w = _
    simp only [Op.stringOp, e]
    cases (l1 == l2) <;> rfl
  · show (Op.stringOp .eql s1 s2).run P w = _
    simp only [Op.stringOp, e]
    cases (l1 == l2) <;> rfl
section
variable {w : World} {u : TypeId} (n : Nat)
theorem in_bool (hu : P.underlying u = some .bool) (a b : Bool) : (Op.equalIn (n + 1) u (.bool a) (.bool b)).run P w = .ok (a == b) w := by
  unfold Op.equalIn
  simp only [Sem.run_bind, run_und hu, Result.andThen_ok, Sem.run_pure]
theorem in_ptr_nn {e : TypeId} (hu : P.underlying u = some (.pointer e)) : (Op.equalIn (n + 1) u (.pointer none) (.pointer none)).run P w = .ok true w := by
  unfold Op.equalIn
  simp only [Sem.run_bind, run_und hu, Result.andThen_ok, Sem.run_pure, Option.isNone_none]
theorem in_ptr_sn {e : TypeId} (hu : P.underlying u = some (.pointer e)) (a : Addr) : (Op.equalIn (n + 1) u (.pointer (some a)) (.pointer none)).run P w = .ok false w := by
  unfold Op.equalIn
  simp only [Sem.run_bind, run_und hu, Result.andThen_ok, Sem.run_pure]
theorem in_ptr_ns {e : TypeId} (hu : P.underlying u = some (.pointer e)) (a : Addr) : (Op.equalIn (n + 1) u (.pointer none) (.pointer (some a))).run P w = .ok false w := by
  unfold Op.equalIn
  simp only [Sem.run_bind, run_und hu, Result.andThen_ok, Sem.run_pure, Option.isNone_some]
theorem in_fn_nn {a b : Array TypeId} {c : Bool} (hu : P.underlying u = some (.func a b c)) : (Op.equalIn (n + 1) u .nilFunc .nilFunc).run P w = .ok true w := by
  unfold Op.equalIn
  simp only [Sem.run_bind, run_und hu, Result.andThen_ok, Sem.run_pure]
theorem in_fn_sn {a b : Array TypeId} {c : Bool} (hu : P.underlying u = some (.func a b c)) (f : Go.Fn) (x y : Array Value) : (Op.equalIn (n + 1) u (.func f x y) .nilFunc).run P w = .ok false w := by
  unfold Op.equalIn
  simp only [Sem.run_bind, run_und hu, Result.andThen_ok, Sem.run_pure]
theorem in_if_nn {m : Array (String × TypeId)} (hu : P.underlying u = some (.interface m)) : (Op.equalIn (n + 1) u .nilIface .nilIface).run P w = .ok true w := by
  unfold Op.equalIn
  simp only [Sem.run_bind, run_und hu, Result.andThen_ok, Sem.run_pure]
theorem in_if_sn {m : Array (String × TypeId)} (hu : P.underlying u = some (.interface m)) (t : TypeId) (v : Value) : (Op.equalIn (n + 1) u (.iface t v) .nilIface).run P w = .ok false w := by
  unfold Op.equalIn
  simp only [Sem.run_bind, run_und hu, Result.andThen_ok, Sem.run_pure]
theorem in_if_ns {m : Array (String × TypeId)} (hu : P.underlying u = some (.interface m)) (t : TypeId) (v : Value) : (Op.equalIn (n + 1) u .nilIface (.iface t v)).run P w = .ok false w := by
  unfold Op.equalIn
  simp only [Sem.run_bind, run_und hu, Result.andThen_ok, Sem.run_pure]
theorem in_if_ne {m : Array (String × TypeId)} (hu : P.underlying u = some (.interface m)) {t t' : TypeId} (h : t ≠ t') (v v' : Value) : (Op.equalIn (n + 1) u (.iface t v) (.iface t' v')).run P w = .ok false w := by
  unfold Op.equalIn
  simp only [Sem.run_bind, run_und hu, Result.andThen_ok, ne_eq, h, not_false_eq_true, if_true, Sem.run_pure]
end
noncomputable def okEqv (P : Program) (NG N : Nat) (o : Oper) (t : Nat) (g : Bool) (x y : X) (d : D) : Bool := dB o.dst d && (match o.op with
  | .binOp q u p p' _ => decide (q = eqOp g) && xB NG N p x && xB NG N p' y && kindB P u t p'
  | _ => false)
theorem snd_eqv (hT : EqT P) {t : Nat} {g : Bool} {x y : X} {d : D} (h : okEqv P NG N o t g x y d = true) : Snd P NG B0 N C o (.eqv t g x y d) := fun c _ fr s => by
  simp only [okEqv, Bool.and_eq_true] at h
  obtain ⟨hd, h⟩ := h
  split at h
  case h_2 => cases h
  rename_i q u p p' u' e'
  simp only [Bool.and_eq_true, decide_eq_true_eq] at h
  obtain ⟨⟨⟨hq, hx⟩, hy⟩, hk⟩ := h
  subst hq
  show Ct (hEqv t g x y d c fr s) _
  unfold hEqv
  rcases hev : eqvA (isRo s.h) t (X.ev x fr) (X.ev y fr) with _ | b
  · exact Ct.bad
  refine Ct.putB (do_pure hd fun r w a hb hs hf => ⟨.bool (eqB b g), ?_, rfl⟩)
  have h1 := xB_rel hx hb hf
  have h2 := xB_rel hy hb hf
  rw [ex_binOp e']
  refine run_v ?_
  generalize X.ev x fr = vx at hev h1
  generalize X.ev y fr = vy at hev h2
  have hk := kind_ok hk
  unfold eqvA at hev
  split at hev
  · -- truths
    cases hev
    simp only [Rel] at h1 h2
    rcases hk with ⟨_, hu⟩ | hk
    · rw [h1, h2]
      refine run_eqn (guard_one (.inl (by simp)) (by simp)) ?_ rfl rfl
      exact in_bool 9999 hu _ _
    · simp at hk
  · -- strings
    cases hev
    obtain ⟨s1, e1, h1⟩ := h1
    obtain ⟨s2, e2, h2⟩ := h2
    rw [e1, e2]
    exact eqv_str h1 h2
  · -- pointers
    cases hev
    simp only [Rel] at h1 h2
    obtain ⟨e, hu⟩ : ∃ e, P.underlying u = some (.pointer e) := by simpa using hk
    rw [h1, h2]
    exact run_eqn (guard_one (.inl (by simp)) (by simp)) (in_ptr_nn 9999 hu) rfl rfl
  · cases hev
    simp only [Rel] at h1 h2
    obtain ⟨e, hu⟩ : ∃ e, P.underlying u = some (.pointer e) := by simpa using hk
    rw [h1.2, h2]
    exact run_eqn (guard_one (.inl (by simp)) (by simp)) (in_ptr_sn 9999 hu _) rfl rfl
  · cases hev
    simp only [Rel] at h1 h2
    obtain ⟨e, hu⟩ : ∃ e, P.underlying u = some (.pointer e) := by simpa using hk
    rw [h1, h2.2]
    exact run_eqn (guard_one (.inl (by simp)) (by simp)) (in_ptr_ns 9999 hu _) rfl rfl
  · -- slices
    cases hev
    simp only [Rel] at h1 h2
    obtain ⟨e, hu⟩ : ∃ e, P.underlying u = some (.slice e) := by simpa using hk
    rw [h1, h2]
    exact run_eqn (guard_one (.inl (by simp)) (by simp)) (run_equalIn_slice_nil w 9999 u e none 0 0 hu) rfl rfl
  · cases hev
    obtain ⟨_, x0, c0, hv, _⟩ := h1
    simp only [Rel] at h2
    obtain ⟨e, hu⟩ : ∃ e, P.underlying u = some (.slice e) := by simpa using hk
    rw [hv, h2]
    exact run_eqn (guard_one (.inl (by simp)) (by simp)) (run_equalIn_slice_nil w 9999 u e _ _ _ hu) rfl rfl
  · -- maps
    cases hev
    simp only [Rel] at h1 h2
    obtain ⟨k, e, hu⟩ : ∃ k e, P.underlying u = some (.map k e) := by simpa using hk
    rw [h1, h2]
    exact run_eqn (guard_one (.inl (by simp)) (by simp)) (run_equalIn_map_nil w 9999 u k e none hu) rfl rfl
  · cases hev
    simp only [Rel] at h1 h2
    obtain ⟨k, e, hu⟩ : ∃ k e, P.underlying u = some (.map k e) := by simpa using hk
    rw [h1.2, h2]
    exact run_eqn (guard_one (.inl (by simp)) (by simp)) (run_equalIn_map_nil w 9999 u k e _ hu) rfl rfl
  · -- functions
    cases hev
    simp only [Rel] at h1 h2
    obtain ⟨a1, b1, c1, hu⟩ : ∃ a b c, P.underlying u = some (.func a b c) := by simpa using hk
    rw [h1, h2]
    exact run_eqn (guard_one (.inl (by simp)) (by simp)) (in_fn_nn 9999 hu) rfl rfl
  · cases hev
    obtain ⟨fa, fc, hv, _⟩ := h1
    simp only [Rel] at h2
    obtain ⟨a1, b1, c1, hu⟩ : ∃ a b c, P.underlying u = some (.func a b c) := by simpa using hk
    rw [hv, h2]
    exact run_eqn (guard_one (.inl (by simp)) (by simp)) (in_fn_sn 9999 hu _ _ _) rfl rfl
  · -- interfaces
    cases hev
    obtain ⟨v1, hv, _⟩ := h1
    simp only [Rel] at h2
    obtain ⟨m, hu⟩ : ∃ m, P.underlying u = some (.interface m) := by simpa using hk
    rw [hv, h2]
    exact run_eqn (guard_one (.inl (by simp)) (by simp)) (in_if_sn 9999 hu _ _) rfl rfl
  · cases hev
    obtain ⟨v1, hv, _⟩ := h2
    simp only [Rel] at h1
    obtain ⟨m, hu⟩ : ∃ m, P.underlying u = some (.interface m) := by simpa using hk
    rw [h1, hv]
    exact run_eqn (guard_one (.inr (by simp)) (by simp)) (in_if_ns 9999 hu _ _) rfl rfl
  · rename_i t1 x1 t2 x2
    obtain ⟨v1, hv1, hr1⟩ := h1
    obtain ⟨v2, hv2, hr2⟩ := h2
    obtain ⟨m, hu⟩ : ∃ m, P.underlying u = some (.interface m) := by simpa using hk
    split at hev
    · rename_i ht
      have ht0 := (beq_iff_eq.1 ht).symm
      subst ht0
      split at hev
      case isFalse => cases hev
      rename_i ht
      have ht := beq_iff_eq.1 ht
      subst ht
      unfold eqvR at hev
      split at hev
      case h_2 => cases hev
      rename_i b1 b2
      split at hev
      case isFalse => cases hev
      rename_i hro
      simp only [Bool.and_eq_true] at hro
      obtain ⟨⟨⟨⟨⟨ro1, ro2⟩, l1⟩, l2⟩, l3⟩, l4⟩ := hro
      have l3 := Nat.le_of_ble_eq_true l3
      have l4 := Nat.le_of_ble_eq_true l4
      have l1 := blt_lt l1
      have l2 := blt_lt l2
      cases hev
      simp only [Rel] at hr1 hr2
      have cells : ∀ b', isRo s.h b' = true → ∃ cs t, w.heap[r.blk b']? = some (.cells cs t (0, 0)) := fun b' h => by
        have hok := hs.ok b'
        unfold isRo at h
        cases hg : Hp.get s.h b' <;> rw [hg] at h hok <;> first | exact hok.2.2 | cases h
      obtain ⟨c1, ty1, hc1⟩ := cells b1 ro1
      obtain ⟨c2, ty2, hc2⟩ := cells b2 ro2
      obtain ⟨te, i, j, hp, hi, hcmp, hj, hjs⟩ := hT.ptr
      have heq : (binOp .eql u (.iface eqT v1) (.iface eqT v2)).run P w = .ok (.bool (Nat.beq b1 b2)) w := by
        rw [hr1.2, hr2.2, Nat.add_zero, Nat.add_zero]
        by_cases hbb : b1 = b2
        · subst hbb
          rw [Nat.beq_refl]
          exact run_eql_iface_ptr_same w _ hu hp hi hcmp hj
        · have : Nat.beq b1 b2 = false := by
            rcases h : Nat.beq b1 b2 with _ | _
            · rfl
            · exact absurd (Nat.eq_of_beq_eq_true h) hbb
          rw [this]
          exact run_eql_iface_ptr_other w hu hp hi hcmp hj hjs (fun e => hbb (hb.inj b1 b2 l1 l2 l3 l4 (congrArg Addr.block e) (congrArg Addr.off e))) hc1 hc2
      have heq2 : (Op.equal u (.iface eqT v1) (.iface eqT v2)).run P w = .ok (Nat.beq b1 b2) w := by
        have e : (binOp .eql u (.iface eqT v1) (.iface eqT v2)) = (do pure (.bool (← Op.equal u (.iface eqT v1) (.iface eqT v2)))) := rfl
        rw [e, Sem.run_bind] at heq
        rcases hq : (Op.equal u (.iface eqT v1) (.iface eqT v2)).run P w with ⟨bb, w2⟩ | ⟨hh, w2⟩
        · rw [hq] at heq
          simp only [Result.andThen_ok, Sem.run_pure, Result.ok.injEq, Value.bool.injEq] at heq
          rw [heq.1, heq.2]
        · rw [hq] at heq
          simp at heq
      rw [hv1, hv2]
      exact run_eqn (guard_one (.inl (by simp)) (by simp)) heq2 rfl rfl
    · rename_i ht
      cases hev
      rw [hv1, hv2]
      exact run_eqn (guard_one (.inl (by simp)) (by simp)) (in_if_ne 9999 hu (fun e => ht (by rw [e]; exact beq_self_eq_true _)) _ _) rfl rfl
  · -- beside the literal nil
    cases hev
    simp only [Rel] at h1 h2
    obtain ⟨⟨m, hu⟩, v, rfl⟩ : (∃ m, P.underlying u = some (.interface m)) ∧ ∃ v, p' = .const v := by simpa using hk
    rw [h1, h2]
    refine run_eqn ?_ (in_if_nn 9999 hu) rfl rfl
    unfold eqGuard
    cases g <;> simp [eqOp]
  · cases hev
    obtain ⟨v1, hv, _⟩ := h1
    simp only [Rel] at h2
    obtain ⟨⟨m, hu⟩, v, rfl⟩ : (∃ m, P.underlying u = some (.interface m)) ∧ ∃ v, p' = .const v := by simpa using hk
    rw [hv, h2]
    exact run_eqn (guard_one (.inl (by simp)) (by simp)) (in_if_sn 9999 hu _ _) rfl rfl
  · cases hev
end
end Go.Proofs.YtenpbpgoglepfaaGreatDoor
namespace Go.Proofs.YtenpbpgoglepfaaGreatDoor
open Go.RowKit
set_option linter.unusedVariables false

section
variable {P : Program} {NG : Env} {B0 N : Nat} {C : CallE → Prop} {o : Oper}
theorem zeroCells_made (z : Array Value) (n : Nat) : Builtin.zeroCells z n = madeCells z (n * z.size) := rfl
theorem AppSrc.zeros {t tx ty el z : Nat} {q : TypeInfo} {zv : Value} (he : ElOk P t el z q zv) {k kx : IntKind} (hk : P.underlying tx = some (.int k)) {n : Nat} (hn : n * z ≤ 4096) (h1 : ∀ v ∈ zv.cells.toList, v.oneCell' = true) (w : World) :
    AppSrc P t tx ty el q zv (.int kx (n : Int)) n (Builtin.zeroCells zv.cells n).toList w := by
  obtain ⟨hu, hq, hz, hsize, hzs, hpos, hby⟩ := he
  subst hsize
  have hn4 : n ≤ 4096 := by
    have := Nat.mul_le_mul_left n hpos
    omega
  have hw : IntKind.i64.wrap (n : Int) = n := IntWalk.i64_in _ (by omega)
  have hneg : ¬ ((n : Int) < 0) := by omega
  have hbig : ¬ (281474976710656 < (n : Int) * (q.bytes : Int)) := by
    have h := Nat.mul_le_mul hn4 hby
    have : ((n * q.bytes : Nat) : Int) ≤ 4096 * 1000000 := by omega
    rw [Int.natCast_mul] at this
    omega
  have hone : ∀ v ∈ (Builtin.zeroCells zv.cells n).toList, v.oneCell' = true := fun v hv => by
    rw [zeroCells_made, made_flat] at hv
    obtain ⟨l, hl, hvl⟩ := List.mem_flatten.1 hv
    rw [List.eq_of_mem_replicate hl] at hvl
    exact h1 v hvl
  refine ⟨by rw [Array.length_toList, zeroCells_size, hzs], fun h0 A sl sc hle => ?_, fun h0 b off sl sc hr hc hf => ?_, fun h0 base sl sc olds hold hg h63 hfit => ?_⟩
  · subst h0
    cases A <;> simp [Builtin.append_, run_underlying hu, run_underlying hk, sizeOf, typeInfo, hq, asInt, asIntOf, IntWalk.i64_in 0 (by omega), hle, storeCells]
  · have hst := run_storeCells_cells (P := P) b (off + sl * q.size) (Builtin.zeroCells zv.cells n).toList 0 w (by simpa using hc) (by simpa using hf) hone
    simp only [Nat.add_zero] at hst
    have hne : ¬ (n * q.size = 0) := by
      have := Nat.mul_pos h0 hpos
      omega
    simp [Builtin.append_, run_underlying hu, run_underlying hk, sizeOf, typeInfo, hq, hz, zeroValue, asInt, asIntOf, hw, hneg, hbig, hr, hne, Addr.add_lit, hst]
  · have hne : ¬ (n * q.size = 0) := by
      have := Nat.mul_pos h0 hpos
      omega
    have hnr : ¬ (sl + n ≤ sc) := by omega
    have h63' : ¬ (9223372036854775807 < ((sl : Int) + (n : Int))) := by omega
    have h48' : ¬ (281474976710656 < Builtin.nextslicecap (sl + n) sc * q.bytes) := by omega
    simp [Builtin.append_, run_underlying hu, run_underlying hk, sizeOf, typeInfo, hq, hz, zeroValue, asInt, asIntOf, hw, hneg, hbig, hnr, hne, h63', h48', Question.forced, hold, newRow, grownCap]
    congr 2
    apply Array.ext'
    simp [List.append_assoc]
noncomputable def okApz (P : Program) (NG N : Nat) (o : Oper) (z : Nat) (zs : AV) (x y : X) (d : D) : Bool := dB o.dst d && (match o.op with
  | .call c => (match c.callee, c.args.toList, c.argTypes.toList with
    | .builtin .append, [p, p'], [t, tx] => xB NG N p x && xB NG N p' y && elB P t z && (match P.underlying tx with | some (.int _) => true | _ => false) && (match P.underlying t with | some (.slice el) => zB P el zs && allOne zs | _ => false)
    | _, _, _ => false)
  | _ => false)
theorem snd_apz {z : Nat} {zs : AV} {x y : X} {d : D} (h : okApz P NG N o z zs x y d = true) : Snd P NG B0 N C o (.apz z zs x y d) := fun c _ fr s => by
  simp only [okApz, Bool.and_eq_true] at h
  obtain ⟨hd, h⟩ := h
  split at h
  case h_2 => cases h
  rename_i cl e'
  split at h
  case h_2 => cases h
  rename_i p p' t tx hc ha ht
  simp only [Bool.and_eq_true] at h
  obtain ⟨⟨⟨⟨hx, hy⟩, hel⟩, hk⟩, hzs⟩ := h
  obtain ⟨el, q, v, hel⟩ := elB_ok hel
  split at hk
  case h_2 => cases hk
  rename_i k hk'
  rw [hel.hu] at hzs
  simp only [Bool.and_eq_true] at hzs
  obtain ⟨v', hv', hzr⟩ := zB_eq hzs.1
  have hvv : v' = v := by
    have h1 := hv' default
    simp only [zeroValue, Sem.run_bind, run_info hel.hq, Result.andThen_ok, hel.hz, Sem.run_pure, Result.ok.injEq, and_true] at h1
    exact h1.symm
  subst hvv
  show Ct (hApz z zs x y d c fr s) _
  unfold hApz
  refine Ct.onI fun tn j e => Ct.natI fun n hn => Ct.must fun hlim => ct_app hel hd hx (ex_append e' hc ha ht) fun r w a hb hs hf => ?_
  subst hn
  have hlim : n * z ≤ 4096 := Nat.le_of_ble_eq_true hlim
  have hr := xB_rel hy hb hf
  rw [e] at hr
  simp only [Rel] at hr
  refine ⟨(Builtin.zeroCells v'.cells n).toList, ?_, ?_⟩
  · rw [hr]
    exact AppSrc.zeros hel hk' hlim (ones_rel hzs.2 (hzr r)) w
  · have := repL_rel (hzr r) n
    rw [← made_flat] at this
    rw [zeroCells_made]
    exact this
noncomputable def okClr (P : Program) (NG N : Nat) (o : Oper) (z : Nat) (zs : AV) (x : X) (d : D) : Bool := dB o.dst d && (match o.op with
  | .call c => (match c.callee, c.args.toList, c.argTypes[0]? with
    | .builtin .clear, [p], some t => xB NG N p x && elB P t z && (match P.underlying t with | some (.slice el) => zB P el zs && allOne zs | _ => false)
    | _, _, _ => false)
  | _ => false)
theorem snd_clr {z : Nat} {zs : AV} {x : X} {d : D} (h : okClr P NG N o z zs x d = true) : Snd P NG B0 N C o (.clr z zs x d) := fun c _ fr s => by
  simp only [okClr, Bool.and_eq_true] at h
  obtain ⟨hd, h⟩ := h
  split at h
  case h_2 => cases h
  rename_i cl e'
  split at h
  case h_2 => cases h
  rename_i p t hc ha ht
  simp only [Bool.and_eq_true] at h
  obtain ⟨⟨hx, hel⟩, hzs⟩ := h
  obtain ⟨el, q, v, hu, hq, hz, hsize, hzsz, hpos, hby⟩ := elB_ok hel
  rw [hu] at hzs
  simp only [Bool.and_eq_true] at hzs
  obtain ⟨v', hv', hzr⟩ := zB_eq hzs.1
  have hvv : v' = v := by
    have h1 := hv' default
    simp only [zeroValue, Sem.run_bind, run_info hq, Result.andThen_ok, hz, Sem.run_pure, Result.ok.injEq, and_true] at h1
    exact h1.symm
  subst hvv
  show Ct (hClr z zs x d c fr s) _
  unfold hClr
  refine Ct.lenS fun n hn => Ct.must fun hlim => Ct.overS (fun h0 => ?_) fun b qo len cp ex cs hpos' hxe hcs hall => ?_
  · subst h0
    refine Ct.fin (do_pure hd fun r w a hb hs hf => ⟨.tuple #[], ?_, trivial⟩)
    have hr := xB_rel hx hb hf
    have hB : ∃ A cd, a.eval p = .slice A 0 cd := by
      rcases hn with ⟨e, _⟩ | ⟨b, q', z', cp, ex, e⟩
      · rw [e] at hr; exact ⟨none, 0, hr⟩
      · rw [e] at hr; obtain ⟨_, x0, c0, hv, _⟩ := hr; exact ⟨_, c0, hv⟩
    obtain ⟨A, cd, hB⟩ := hB
    rw [ex_builtin e' hc, args1 a ha, hB]
    refine run_v ?_
    cases A <;> simp only [Builtin.clear_, ht, List.getElem?_toArray, List.getElem?_cons_zero, Sem.run_bind, run_und hu, Result.andThen_ok, Sem.run_pure]
  · refine Ct.fin (do_val hd fun r w a hb hs hf => ?_)
    have hr := xB_rel hx hb hf
    rw [hxe] at hr
    obtain ⟨hbn, x0, c0, hv, hx0, hcap, hexc, hlc, htot⟩ := hr
    have hlm : len = n := by
      rcases hn with ⟨e, _⟩ | ⟨b', q', z', cp', ex', e⟩
      · rw [e] at hxe; cases hxe
      · rw [e] at hxe; cases hxe; rfl
    subst hlm
    have hx1 : x0 = r.off b + qo := hx0 (by omega)
    obtain ⟨_, rcs, t', f', hh, hzz, hcc, hfz⟩ := row_of hs (.inr hcs)
    obtain ⟨us, v1, v2, v3⟩ := getL_rel hcc _ qo hall
    have hrl : RelL r (repL len zs) (Builtin.zeroCells v'.cells len).toList := by
      have := repL_rel (hzr r) len
      rw [← made_flat] at this
      rw [zeroCells_made]
      exact this
    have hlen : (Builtin.zeroCells v'.cells len).toList.length = len * z := by rw [Array.length_toList, zeroCells_size, hzsz]
    have hroom : ∀ j, j < (Builtin.zeroCells v'.cells len).toList.length → ∃ v, rcs[r.off b + qo + j]? = some v := fun j hj => by
      obtain ⟨u, _, u2⟩ := v3 j (by rw [← hlen]; exact hj)
      exact ⟨u, u2⟩
    have hone : ∀ v ∈ (Builtin.zeroCells v'.cells len).toList, v.oneCell' = true := fun u hu' => by
      rw [zeroCells_made, made_flat] at hu'
      obtain ⟨l, hl, hvl⟩ := List.mem_flatten.1 hu'
      rw [List.eq_of_mem_replicate hl] at hvl
      exact ones_rel hzs.2 (hzr r) u hvl
    obtain ⟨s1, s2⟩ := put_ok hs hcs (q := qo) hrl (fun j hj => by
      obtain ⟨v, hv⟩ := hroom j hj
      exact ⟨_, _, _, v, hh, hv⟩)
    refine ⟨.tuple #[], _, r, ?_, trivial, s1, s2⟩
    rw [ex_builtin e' hc, args1 a ha, hv]
    refine run_v ?_
    obtain ⟨m, rfl⟩ : ∃ m, len = m + 1 := ⟨len - 1, by omega⟩
    have hst := run_put (P := P) hh hfz hroom hone
    rw [← hx1] at hst
    rw [← hx1]
    simp only [Builtin.clear_, ht, List.getElem?_toArray, List.getElem?_cons_zero, Sem.run_bind, run_und hu, Result.andThen_ok, hv', hst, Sem.run_pure]
end
end Go.Proofs.YtenpbpgoglepfaaGreatDoor
namespace Go.Proofs.YtenpbpgoglepfaaGreatDoor
open Go.RowKit
set_option linter.unusedVariables false

section
variable {P : Program} {NG : Env} {B0 N : Nat}
noncomputable def ckI (P : Program) (NG N : Nat) (mt : Mt) (o : Oper) (i : I) : Bool :=
  match i with
  | .mov x d => okMov NG N o x d || (match x with | .k (.i .i64 (.ofNat n)) => okLenA P o n d | _ => false)
  | .pick c a b d => okPick NG N o c a b d
  | .alc n z d => okAlc P NG N o n z d
  | .box n x d => okBox P NG N o n x d
  | .bld n z ps d => okBld P NG N o n z ps d
  | .bls z n zs ps d => okBls P NG N o z n zs ps d
  | .ld1 a d => okLd1 P NG N o a d
  | .ldn n a d => okLdn P NG N o n a d
  | .sto n a v => okSto P NG N o n a v
  | .nlc x d => (match x with | .k .np => true | _ => false) || okNlc NG N o x d
  | .ar g x y d => okAr NG N o g x y d
  | .cmp g x y d => okCmp NG N o g x y d
  | .eqv t g x y d => okEqv P NG N o t g x y d
  | .not x d => okNot NG N o x d
  | .cnv k x d => okCnv P NG N o k x d
  | .s2b x d => okS2b P NG N o x d
  | .b2s x d => okB2s P NG N o x d
  | .cat x y d => okCat NG N o x y d
  | .fld z x d => okFld P NG N o z x d
  | .idx z x i d => okIdx P NG N o z x i d
  | .ixa z n x i d => okIxa P NG N o z n x i d
  | .fi1 z x d => okFi1 P NG N o z x d
  | .fin z n x d => okFin P NG N o z n x d
  | .ina n x i d => okIna P NG N o n x i d
  | .ins x i d => okIns P NG N o x i d
  | .slc z x lo hi mx d => okSlc P NG N o z x lo hi mx d
  | .sls x lo hi d => okSls P NG N o x lo hi d
  | .mkf g fs cs d => okMkf NG N o g fs cs d
  | .mki t x d => okMki P NG N o t x d
  | .mkm d => okMkm o d
  | .mks z zs l c d => okMks P NG N o z zs l c d
  | .lok zv x k ok d => okLok P NG N o zv x k ok d
  | .mup m k v => okMup P NG N o m k v
  | .del m k d => okDel P NG N o m k d
  | .len g x d => okLen P NG N o g x d
  | .cap x d => okCap P NG N o x d
  | .app z x y d => okApp P NG N o z x y d
  | .aps x y d => okAps P NG N o x y d
  | .apz z zs x y d => okApz P NG N o z zs x y d
  | .cpy z x y d => okCpy P NG N o z x y d
  | .clr z zs x d => okClr P NG N o z zs x d
  | .mnx g x y d => okMnx NG N o g x y d
  | .ext i x d => okExt NG N o i x d
  | .call g as_ d => okCall NG N o g as_ d
  | .cald x as_ d => okCald NG N o x as_ d
  | .inv tb x as_ d => okInv NG N mt o tb x as_ d
  | .yld _ _ _ => false
  | .gd _ _ _ _ _ => false
/-- What is known of the program. -/
structure Kn (P : Program) (mt : Mt) : Prop where
  eqT : EqT P
  mt : MtOk P mt
theorem snd_ck {mt : Mt} (hk : Kn P mt) {o : Oper} {i : I} (h : ckI P NG N mt o i = true) : Snd P NG B0 N (COk P NG B0) o i := by
  cases i with
  | mov x d =>
    simp only [ckI, Bool.or_eq_true] at h
    rcases h with h | h
    · exact snd_mov h
    · split at h
      · exact snd_lenA h
      · cases h
  | pick c a b d => exact snd_pick h
  | alc n z d => exact snd_alc h
  | box n x d => exact snd_box h
  | bld n z ps d => exact snd_bld h
  | bls z n zs ps d => exact snd_bls h
  | ld1 a d => exact snd_ld1 h
  | ldn n a d => exact snd_ldn h
  | sto n a v => exact snd_sto h
  | nlc x d =>
    simp only [ckI, Bool.or_eq_true] at h
    rcases h with h | h
    · split at h
      · exact snd_bad
      · cases h
    · exact snd_nlc h
  | ar g x y d => exact snd_ar h
  | cmp g x y d => exact snd_cmp h
  | eqv t g x y d => exact snd_eqv hk.eqT h
  | not x d => exact snd_not h
  | cnv k x d => exact snd_cnv h
  | s2b x d => exact snd_s2b h
  | b2s x d => exact snd_b2s h
  | cat x y d => exact snd_cat h
  | fld z x d => exact snd_fld h
  | idx z x i d => exact snd_idx h
  | ixa z n x i d => exact snd_ixa h
  | fi1 z x d => exact snd_fi1 h
  | fin z n x d => exact snd_fin h
  | ina n x i d => exact snd_ina h
  | ins x i d => exact snd_ins h
  | slc z x lo hi mx d => exact snd_slc h
  | sls x lo hi d => exact snd_sls h
  | mkf g fs cs d => exact snd_mkf h
  | mki t x d => exact snd_mki h
  | mkm d => exact snd_mkm h
  | mks z zs l c d => exact snd_mks h
  | lok zv x k ok d => exact snd_lok h
  | mup m k v => exact snd_mup h
  | del m k d => exact snd_del h
  | len g x d => exact snd_len h
  | cap x d => exact snd_cap h
  | app z x y d => exact snd_app h
  | aps x y d => exact snd_aps h
  | apz z zs x y d => exact snd_apz h
  | cpy z x y d => exact snd_cpy h
  | clr z zs x d => exact snd_clr h
  | mnx g x y d => exact snd_mnx h
  | ext i x d => exact snd_ext h
  | call g as_ d => exact snd_call h
  | cald x as_ d => exact snd_cald h
  | inv tb x as_ d => exact snd_inv hk.mt h
  | yld _ _ _ => cases h
  | gd _ _ _ _ _ => cases h
/-- What is known of a round that is called. -/
def YOk (P : Program) (NG : Env) (B0 : Nat) (c : CallE) : Prop := ∀ b ar s v s', c yN (.cons (.y b) ar) s = .ok v s' → ∀ (r : Rho) (w : World) (vals : Array Value), Base NG r → Sim B0 r s w → r.has b → RelL r ar vals.toList →
  YieldAt (Wd none) 0 P (r.blk b) vals w fun e w' => ∃ x, e = .returned x ∧ ∃ r', Rel r' v x ∧ Sim B0 r' s' w' ∧ Stp r s w r' s' w'
def CAll (P : Program) (NG : Env) (B0 : Nat) (c : CallE) : Prop := COk P NG B0 c ∧ YOk P NG B0 c
noncomputable def okYld (NG N : Nat) (o : Oper) (x : X) (as_ : List X) (d : D) : Bool := dB o.dst d && (match o.op with
  | .call c => (match c.callee with | .value p => xB NG N p x && xsB NG N c.args.toList as_ | _ => false)
  | _ => false)
theorem snd_yld {ro : Option Nat} {o : Oper} {x : X} {as_ : List X} {d : D} (h : okYld NG N o x as_ d = true) (hdf : noDf o = true) : SndI P NG B0 N (CAll P NG B0) ro o (.yld x as_ d) := fun c hc fr s => by
  simp only [okYld, Bool.and_eq_true] at h
  obtain ⟨hd, h⟩ := h
  split at h
  case h_2 => cases h
  rename_i cl e'
  split at h
  case h_2 => cases h
  rename_i p hcl
  simp only [Bool.and_eq_true] at h
  show Ct (hYld x as_ d c fr s) _
  unfold hYld
  refine Ct.onY fun b ex => Ct.onRC fun v s' e => Ct.fin fun r w a hb hs hf Q K hK => ?_
  have hr := xB_rel h.1 hb hf
  rw [ex] at hr
  obtain ⟨hhas, hv⟩ := hr
  obtain ⟨fn, tmps, asg, bd, e1, e2⟩ := hc.2 _ _ _ _ _ e r w (cl.args.map a.eval) hb hs hhas (by rw [Array.toList_map]; exact xsB_rel hb hf h.2)
  have e3 : (execOp a.eval o).run P w = .ok (.round (r.blk b) fn tmps asg bd) w := by
    rw [ex_call e']
    unfold resolve
    rw [hcl]
    show (do let d ← Deferred.ofValue (a.eval p) (cl.args.map a.eval); invoke d.target d.args : Sem Next).run P w = _
    rw [hv]
    show (Instr.yield (r.blk b) ((#[] ++ cl.args.map a.eval) ++ #[])).run P w = _
    rw [Array.append_empty, Array.empty_append]
    exact e1
  refine ⟨fun _ _ => trivial, ?_⟩
  rw [show (Wd ro).round = ro from rfl, Oper.semAt_eq ro a.eval o (noDf_eq hdf), e3, Oper.uponIn_round]
  have e4 : RoundIn (Wd ro) (0 - 1) P (r.blk b) fn tmps asg bd w _ := e2
  refine ⟨fun e => (by cases e), e4.mono fun e w' => ?_⟩
  rintro ⟨x, rfl, r', h1, h2, h3⟩
  exact hK _ _ r' h2 h3 ((hf.le h3.le).put hd h1) (put_dfr _ _ _)
/-- One check over all instructions, in a round or in none. -/
noncomputable def ckJ (P : Program) (NG N : Nat) (mt : Mt) (o : Oper) (i : I) : Bool := noDf o && (match i with
  | .yld x l d => okYld NG N o x l d
  | _ => ckI P NG N mt o i)
theorem snd_cj {mt : Mt} (hk : Kn P mt) {ro : Option Nat} {o : Oper} {i : I} (h : ckJ P NG N mt o i = true) : SndI P NG B0 N (CAll P NG B0) ro o i := by
  simp only [ckJ, Bool.and_eq_true] at h
  obtain ⟨hdf, h⟩ := h
  have plain : ckI P NG N mt o i = true → SndI P NG B0 N (CAll P NG B0) ro o i := fun h c hc => (snd_ck hk h).toI hdf c hc.1
  cases i with
  | yld x l d => exact snd_yld h hdf
  | _ => exact plain h
end
end Go.Proofs.YtenpbpgoglepfaaGreatDoor
namespace Go.Proofs.YtenpbpgoglepfaaGreatDoor
open Go.RowKit
set_option linter.unusedVariables false

section
variable {P : Program} {NG : Env} {B0 N : Nat}
/-- The first slots, from the n-th on, hold a list. -/
noncomputable def inF (l : AV) : Nat → Fr → Fr := AV.fold l (fun v (r : Nat → Fr → Fr) n fr => r (Nat.succ n) (F.mod .h0 (F.mod (toH0 n) (fun _ => v)) fr)) (fun _ fr => fr)
open Classical in
theorem inF_get {l : AV} (hl : IsL l) : ∀ (n : Nat) (fr : Fr) (h q : H), n + lenL l ≤ 16 → F.get q (F.get h (inF l n fr)) = if h = .h0 ∧ n ≤ q.num ∧ q.num < n + lenL l then nthL l (q.num - n) else F.get q (F.get h fr) := by
  induction hl with
  | nil =>
    intro n fr h q hn
    rw [if_neg (fun e => by have : lenL .nil = 0 := rfl; omega)]
    rfl
  | @cons x l hl ih =>
    intro n fr h q hn
    rw [lenL_cons] at hn
    have e : inF (.cons x l) n fr = inF l (n + 1) (D.put (.to .h0 (toH0 n)) x fr) := rfl
    rw [e, ih (n + 1) _ h q (by omega), D.get_put, lenL_cons]
    have hnum : (toH0 n).num = n := num_toH n (by omega)
    by_cases hh : h = .h0
    · subst hh
      by_cases h1 : n + 1 ≤ q.num ∧ q.num < n + 1 + lenL l
      · rw [if_pos ⟨rfl, h1⟩, if_pos ⟨rfl, by omega, by omega⟩]
        obtain ⟨k, hk⟩ : ∃ k, q.num - n = k + 1 := ⟨q.num - n - 1, by omega⟩
        rw [hk, show q.num - (n + 1) = k by omega]
        rfl
      · rw [if_neg (fun e => h1 e.2)]
        by_cases hq : q = toH0 n
        · subst hq
          rw [if_pos ⟨rfl, rfl⟩, if_pos ⟨rfl, by omega, by omega⟩, hnum, Nat.sub_self]
          rfl
        · have hne : q.num ≠ n := fun e => hq (num_inj (by rw [hnum, e]))
          rw [if_neg (fun e => hq e.2), if_neg (fun e => by omega)]
    · rw [if_neg (fun e => hh e.1), if_neg (fun e => hh e.1), if_neg (fun e => hh e.1)]
theorem frame_in {r : Rho} {ar : AV} {args : Array Value} (hr : RelL r ar args.toList) {nt n : Nat} (h1 : lenL ar ≤ nt) (h2 : nt ≤ 16) (h3 : nt ≤ n) : FrR n r (inFr ar) { tmps := args ++ Array.replicate (n - args.size) undef, defers := [] } := by
  have hl := relL_len hr
  rw [Array.length_toList] at hl
  refine ⟨?_, fun h q v hv => ?_⟩
  · show (args ++ Array.replicate (n - args.size) undef).size = n
    rw [Array.size_append, Array.size_replicate]
    omega
  · have e : inFr ar = inF ar 0 emptyFr := rfl
    rw [e, inF_get (relL_isL hr) 0 emptyFr h q (by omega)]
    by_cases hh : h = .h0 ∧ 0 ≤ q.num ∧ q.num < 0 + lenL ar
    · rw [if_pos hh, Nat.sub_zero]
      obtain ⟨rfl, _, hq⟩ := hh
      have hs : slotN .h0 q = q.num := by unfold slotN; show 16 * 0 + q.num = q.num; omega
      rw [hs] at hv
      have hv' : (args ++ Array.replicate (n - args.size) undef)[q.num]? = some v := hv
      rw [Array.getElem?_append_left (by omega)] at hv'
      by_cases hu : nthL ar q.num = .u
      · rw [hu]; trivial
      · obtain ⟨u, hu1, hu2⟩ := nthL_rel q.num hr hu
        rw [Array.getElem?_toList, hv'] at hu1
        cases hu1
        exact hu2
    · rw [if_neg hh]
      have e2 : F.get q (F.get h emptyFr) = .u := by
        show F.get q (F.get h (F.all (F.all AV.u))) = .u
        rw [F.get_all, F.get_all]
      rw [e2]
      trivial
/-- Results. -/
noncomputable def ckRV (P : Program) (N : Nat) : ResultVar → RV → Bool
  | .tmp t, .t x => xB 0 N (.tmp t) x
  | .cell a ty, .c1 x => xB 0 N (.tmp a) x && aggB P ty false
  | .cell a ty, .cn n x => xB 0 N (.tmp a) x && aggB P ty true && szB P ty n
  | _, _ => false
noncomputable def ckRVs (P : Program) (N : Nat) : List ResultVar → List RV → Bool
  | [], [] => true
  | v :: l, x :: m => ckRV P N v x && ckRVs P N l m
  | _, _ => false
def resOf (tmps : Array Value) : ResultVar → Sem Value
  | .tmp t => pure (tmps.getD t undef)
  | .cell a t => do loadVar t (← asAddr (tmps.getD a undef))
theorem xB_tmp {N t : Nat} {x : X} (h : xB 0 N (.tmp t) x = true) {r : Rho} {fr : Fr} {a : Act} (hf : FrR N r fr a) : Rel r (X.ev x fr) (a.tmps.getD t undef) := by
  cases x with
  | k v => cases h
  | t p q =>
    simp only [xB, Bool.and_eq_true, beq_iff_eq, decide_eq_true_eq] at h
    have : t < a.tmps.size := by rw [hf.size]; exact h.2
    rw [Array.getD_eq_getD_getElem?, Array.getElem?_eq_getElem this]
    exact hf.get p q _ (by rw [← h.1]; exact Array.getElem?_eq_getElem this)
theorem rv_ok {v : ResultVar} {x : RV} (h : ckRV P N v x = true) (fr : Fr) (s : St) : (∀ f, evRV x fr s f = .bad) ∨ ∃ av, (∀ f, evRV x fr s f = f av) ∧ ∀ (r : Rho) (w : World) (a : Act), Sim B0 r s w → FrR N r fr a → ∃ u, (resOf a.tmps v).run P w = .ok u w ∧ Rel r av u := by
  cases v with
  | tmp t =>
    cases x with
    | t x => exact .inr ⟨X.ev x fr, fun _ => rfl, fun r w a hs hf => ⟨_, rfl, xB_tmp h hf⟩⟩
    | c1 _ => cases h
    | cn _ _ => cases h
  | cell t ty =>
    cases x with
    | t x => cases h
    | c1 x =>
      simp only [ckRV, Bool.and_eq_true] at h
      have e : ∀ f, evRV (.c1 x) fr s f = AV.onP (X.ev x fr) .bad fun b o => GB.onR (Hp.get s.h b) .bad fun cs => AV.isU (Cs.get cs o) (f (Cs.get cs o)) .bad := fun _ => rfl
      simp only [e]
      cases hx : X.ev x fr <;> try exact .inl fun _ => rfl
      rename_i b q
      rcases hg : Hp.get s.h b with _ | cs | cs | _ | _
      · exact .inl fun f => by show GB.onR (Hp.get s.h b) _ _ = _; rw [hg]; rfl
      · by_cases hu : Cs.get cs q = .u
        · exact .inl fun f => by show GB.onR (Hp.get s.h b) _ _ = _; rw [hg]; show AV.isU (Cs.get cs q) _ _ = _; rw [hu]; rfl
        · refine .inr ⟨Cs.get cs q, fun f => by
            show GB.onR (Hp.get s.h b) _ _ = _
            rw [hg]
            show AV.isU (Cs.get cs q) _ _ = _
            cases hc : Cs.get cs q <;> first | rfl | exact absurd hc hu, fun r w a hs hf => ?_⟩
          have hr := xB_tmp h.1 hf
          rw [hx] at hr
          simp only [Rel] at hr
          obtain ⟨_, rcs, t', f', hh, hz, hcc, hfz⟩ := row_of hs (.inl hg)
          obtain ⟨u, hu1, hu2⟩ := hcc q hu
          refine ⟨u, ?_, hu2⟩
          show (do loadVar ty (← asAddr (a.tmps.getD t undef)) : Sem Value).run P w = _
          rw [hr.2]
          simp only [asAddr, Sem.run_bind, Sem.run_pure, Result.andThen_ok, loadVar, aggB_eq h.2, Bool.false_eq_true, if_false, run_load, cell_at hh, hu1]
      · by_cases hu : Cs.get cs q = .u
        · exact .inl fun f => by show GB.onR (Hp.get s.h b) _ _ = _; rw [hg]; show AV.isU (Cs.get cs q) _ _ = _; rw [hu]; rfl
        · refine .inr ⟨Cs.get cs q, fun f => by
            show GB.onR (Hp.get s.h b) _ _ = _
            rw [hg]
            show AV.isU (Cs.get cs q) _ _ = _
            cases hc : Cs.get cs q <;> first | rfl | exact absurd hc hu, fun r w a hs hf => ?_⟩
          have hr := xB_tmp h.1 hf
          rw [hx] at hr
          simp only [Rel] at hr
          obtain ⟨_, rcs, t', f', hh, hz, hcc, hfz⟩ := row_of hs (.inr hg)
          obtain ⟨u, hu1, hu2⟩ := hcc q hu
          refine ⟨u, ?_, hu2⟩
          show (do loadVar ty (← asAddr (a.tmps.getD t undef)) : Sem Value).run P w = _
          rw [hr.2]
          simp only [asAddr, Sem.run_bind, Sem.run_pure, Result.andThen_ok, loadVar, aggB_eq h.2, Bool.false_eq_true, if_false, run_load, cell_at hh, hu1]
      · exact .inl fun f => by show GB.onR (Hp.get s.h b) _ _ = _; rw [hg]; rfl
      · exact .inl fun f => by show GB.onR (Hp.get s.h b) _ _ = _; rw [hg]; rfl
    | cn n x =>
      simp only [ckRV, Bool.and_eq_true] at h
      have e : ∀ f, evRV (.cn n x) fr s f = AV.onP (X.ev x fr) .bad fun b o => GB.onR (Hp.get s.h b) .bad fun cs => ifB (allOne (Cs.getL cs n o)) (f (.agg (Cs.getL cs n o))) .bad := fun _ => rfl
      simp only [e]
      cases hx : X.ev x fr <;> try exact .inl fun _ => rfl
      rename_i b q
      have main : ∀ cs, (Hp.get s.h b = .ro cs ∨ Hp.get s.h b = .rw cs) → (∀ f : AV → RC, GB.onR (Hp.get s.h b) .bad (fun cs => ifB (allOne (Cs.getL cs n q)) (f (.agg (Cs.getL cs n q))) .bad) = ifB (allOne (Cs.getL cs n q)) (f (.agg (Cs.getL cs n q))) .bad) →
          (∀ f : AV → RC, AV.onP (.p b q) .bad (fun b o => GB.onR (Hp.get s.h b) .bad fun cs => ifB (allOne (Cs.getL cs n o)) (f (.agg (Cs.getL cs n o))) .bad) = .bad) ∨ ∃ av, (∀ f : AV → RC, AV.onP (.p b q) .bad (fun b o => GB.onR (Hp.get s.h b) .bad fun cs => ifB (allOne (Cs.getL cs n o)) (f (.agg (Cs.getL cs n o))) .bad) = f av) ∧ ∀ (r : Rho) (w : World) (a : Act), Sim B0 r s w → FrR N r fr a → ∃ u, (resOf a.tmps (.cell t ty)).run P w = .ok u w ∧ Rel r av u := fun cs hcs he => by
        rcases ha : allOne (Cs.getL cs n q) with _ | _
        · exact .inl fun f => (he f).trans (by rw [ha]; rfl)
        · refine .inr ⟨.agg (Cs.getL cs n q), fun f => (he f).trans (by rw [ha]; rfl), fun r w a hs hf => ?_⟩
          have hr := xB_tmp h.1.1 hf
          rw [hx] at hr
          simp only [Rel] at hr
          obtain ⟨_, rcs, t', f', hh, hz, hcc, hfz⟩ := row_of hs hcs
          obtain ⟨vs, v1, v2, v3⟩ := getL_rel hcc _ q ha
          refine ⟨.agg vs.toArray, ?_, ⟨_, rfl, v1⟩⟩
          show (do loadVar ty (← asAddr (a.tmps.getD t undef)) : Sem Value).run P w = _
          have hl : (loadCells ⟨r.blk b, r.off b + q, none⟩ n).run P w = .ok vs.toArray w := by
            rw [← v2]
            refine run_loadCells_list w _ vs fun j v hj => ?_
            rw [Addr.add_mid, cell_at hh]
            obtain ⟨u, u1, u2⟩ := v3 j (by rw [← v2]; exact (List.getElem?_eq_some_iff.1 hj).1)
            rw [u2, ← u1, hj]
          rw [hr.2]
          simp only [asAddr, Sem.run_bind, Sem.run_pure, Result.andThen_ok, loadVar, aggB_eq h.1.2, if_true, run_size (szB_eq h.2), hl]
      rcases hg : Hp.get s.h b with _ | cs | cs | _ | _
      · exact .inl fun f => by show GB.onR (Hp.get s.h b) _ _ = _; rw [hg]; rfl
      · exact main cs (.inl hg) (fun f => by rw [hg]; rfl)
      · exact main cs (.inr hg) (fun f => by rw [hg]; rfl)
      · exact .inl fun f => by show GB.onR (Hp.get s.h b) _ _ = _; rw [hg]; rfl
      · exact .inl fun f => by show GB.onR (Hp.get s.h b) _ _ = _; rw [hg]; rfl
theorem rvs_ok {fr : Fr} {s : St} : ∀ {l : List ResultVar} {m : List RV}, ckRVs P N l m = true → (∀ f, evRVs m fr s f = .bad) ∨ ∃ av, (∀ f, evRVs m fr s f = f av) ∧ ∀ (r : Rho) (w : World) (a : Act), Sim B0 r s w → FrR N r fr a → ∃ us, (l.mapM (resOf a.tmps) : Sem (List Value)).run P w = .ok us w ∧ RelL r av us
  | [], [], _ => .inr ⟨.nil, fun _ => rfl, fun r w a _ _ => ⟨[], rfl, rfl⟩⟩
  | v :: l, x :: m, h => by
    simp only [ckRVs, Bool.and_eq_true] at h
    have e : ∀ f, evRVs (x :: m) fr s f = evRV x fr s fun a => evRVs m fr s fun l => f (.cons a l) := fun _ => rfl
    rcases rv_ok (B0 := B0) h.1 fr s with h1 | ⟨av, h1, h2⟩
    · exact .inl fun f => (e f).trans (h1 _)
    · rcases rvs_ok (fr := fr) (s := s) h.2 with k1 | ⟨bv, k1, k2⟩
      · exact .inl fun f => (e f).trans ((h1 _).trans (k1 _))
      · refine .inr ⟨.cons av bv, fun f => (e f).trans ((h1 _).trans (k1 _)), fun r w a hs hf => ?_⟩
        obtain ⟨u, u1, u2⟩ := h2 r w a hs hf
        obtain ⟨us, w1, w2⟩ := k2 r w a hs hf
        refine ⟨u :: us, ?_, ⟨_, _, rfl, u2, w2⟩⟩
        rw [List.mapM_cons]
        simp only [Sem.run_bind, u1, Result.andThen_ok, w1, Sem.run_pure]
  | [], _ :: _, h => by cases h
  | _ :: _, [], h => by cases h
theorem oneOr_rel {r : Rho} {l : AV} {us : List Value} (h : RelL r l us) : Rel r (oneOr l) (if h : us.toArray.size = 1 then us.toArray[0] else .tuple us.toArray) := by
  have hl := relL_isL h
  cases hl with
  | nil =>
    simp only [RelL] at h
    subst h
    exact ⟨_, rfl, rfl⟩
  | @cons x l hl =>
    obtain ⟨v, vs, rfl, h1, h2⟩ := h
    cases hl with
    | nil =>
      simp only [RelL] at h2
      subst h2
      exact h1
    | @cons y l hl =>
      obtain ⟨v2, vs2, rfl, h3, h4⟩ := h2
      have : ¬ (v :: v2 :: vs2).toArray.size = 1 := by simp
      rw [dif_neg this]
      exact ⟨_, rfl, ⟨_, _, rfl, h1, ⟨_, _, rfl, h3, h4⟩⟩⟩
theorem results_ok {fn : Func} {tmps : Array Value} {w : World} {us : List Value} (h : (fn.results.toList.mapM (resOf tmps) : Sem (List Value)).run P w = .ok us w) : (results fn tmps).run P w = .ok (if h : us.toArray.size = 1 then us.toArray[0] else .tuple us.toArray) w := by
  show ((do let vs ← fn.results.mapM (resOf tmps); pure (if h : vs.size = 1 then vs[0] else .tuple vs)) : Sem Value).run P w = _
  rw [Sem.run_bind, Array.mapM_eq_mapM_toList, Sem.run_map, h]
  rfl
/-- On the way out of an activation: the blocks that its loops over functions have left are shut. -/
theorem leaves_df {fn : Func} {tmps : Array Value} {R : Ending → World → Prop} {r r0 : Rho} {s s0 : St} {w0 : World} : ∀ {l : List Deferred} {w : World}, DfOk w0.heap.size r s w l → Sim B0 r s w → Stp r0 s0 w0 r s w →
    (∀ w', Sim B0 r s w' → Stp r0 s0 w0 r s w' → ∃ v, (results fn tmps).run P w' = .ok v w' ∧ R (.returned v) w') → LeavesInM (Wd none) 0 P fn tmps R l .returning w
  | [], w, h, hs, hst, hR => hR w hs hst
  | d :: l, w, h, hs, hst, hR => by
    obtain ⟨D, rfl, h0, h2, h3⟩ := h.all d List.mem_cons_self
    have hlt := (Array.getElem?_eq_some_iff.1 h2).1
    have hne : ∀ b, Hp.get s.h b ≠ .no → r.blk b ≠ D := fun b hb => by
      have := hs.ok b
      cases e : Hp.get s.h b with
      | no => exact absurd e hb
      | ro c => rw [e] at this; intro e2; obtain ⟨cs, t, h4⟩ := this.2.2; rw [e2, h2] at h4; cases h4
      | rw c => exact h3 b (by rw [e]; trivial)
      | mp c => exact h3 b (by rw [e]; trivial)
      | lp c => exact h3 b (by rw [e]; trivial)
    have hoth : ∀ x, x ≠ D → (w.putObj D (.deferred none)).heap[x]? = w.heap[x]? := fun x hx => World.putObj_heap_other hx
    have hsz : (w.putObj D (.deferred none)).heap.size = w.heap.size := by simp [World.putObj]
    refine ⟨by simp, .inl ⟨D, w.putObj D (.deferred none), rfl, run_takeDeferred h2, leaves_df ⟨by rw [hsz]; exact h.hlo, fun d' hd' => ?_, (List.nodup_cons.1 h.ne).2⟩ ?_ ?_ hR⟩⟩
    · obtain ⟨D', rfl, k0, k2, k3⟩ := h.all d' (List.mem_cons_of_mem _ hd')
      refine ⟨D', rfl, k0, ?_, k3⟩
      rw [hoth D' (fun e => (List.nodup_cons.1 h.ne).1 (by rw [← e]; exact hd'))]
      exact k2
    · refine ⟨hs.n, hs.lt, by rw [hsz]; exact hs.low, fun b => ?_, hs.inj, hs.ety.to (hoth _ fun e => by
      obtain ⟨_, ty, f, hh⟩ := hs.ety
      rw [e, h2] at hh
      cases hh)⟩
      by_cases hb : Hp.get s.h b = .no
      · rw [hb]; trivial
      · exact OkB.le (hs.ok b) (.refl r) (hoth _ (hne b hb))
    · exact ⟨hst.le, hst.os, hst.tape, hst.output, by rw [hsz]; exact hst.size, fun x hx hn => by rw [hoth x (by omega)]; exact hst.keep x hx hn, hst.new, hst.old⟩
end
end Go.Proofs.YtenpbpgoglepfaaGreatDoor
namespace Go.Proofs.YtenpbpgoglepfaaGreatDoor
open Go.RowKit
set_option linter.unusedVariables false

/-- A block more: a loop's record. -/
def Rho.pushL (r : Rho) (x : Nat) (rec : Loop) : Rho := ⟨r.n + 1, fun b => r.has b ∨ b = r.n, fun b => if b = r.n then x else r.blk b, fun b => if b = r.n then 0 else r.off b, fun b => if b = r.n then 0 else r.tot b, fun b => if b = r.n then rec else r.lp b, r.opq⟩
section
variable {P : Program} {NG : Env} {B0 N : Nat} {r : Rho} {s : St} {w w' : World}
/-- A world that has more. -/
theorem Sim.more (h : Sim B0 r s w) (hb : Below w.heap.size w w') : Sim B0 r s w' ∧ Stp r s w r s w' :=
  ⟨⟨h.n, h.lt, Nat.le_trans h.low hb.size, fun b => by
    by_cases hno : Hp.get s.h b = .no
    · rw [hno]; trivial
    · exact OkB.le (h.ok b) (.refl r) (hb.block _ ((h.ok b).lt hno).2), h.inj, h.ety.to (hb.block _ (by have := h.ety.1; have := h.low; omega))⟩, ⟨.refl r, hb.os, hb.tape, hb.output, hb.size, fun x hx _ => hb.block x hx, fun _ h => .inl h, fun b h => .inl ⟨b, h, rfl⟩⟩⟩
/-- Behind a loop's new record. -/
theorem Sim.newL (h : Sim B0 r s w) (rec : Loop) : Sim B0 (r.pushL w.heap.size rec) (.mk (Hp.put s.h s.n (.lp 0)) (Nat.succ s.n)) (w.alloc (.loop (lpAt rec 0))) ∧ Stp r s w (r.pushL w.heap.size rec) (.mk (Hp.put s.h s.n (.lp 0)) (Nat.succ s.n)) (w.alloc (.loop (lpAt rec 0))) := by
  have hle : r.Le (r.pushL w.heap.size rec) := ⟨Nat.le_succ _, fun b hb => by have := h.lt b hb; simp [Rho.pushL, show b ≠ r.n by omega, hb], fun b hb => by have := h.lt b hb; simp [Rho.pushL, show b ≠ r.n by omega], rfl⟩
  have hat : (r.pushL w.heap.size rec).blk r.n = w.heap.size := by simp [Rho.pushL]
  have hold : ∀ b, Hp.get s.h b ≠ .no → r.has b ∧ r.blk b < w.heap.size := fun b hb => (h.ok b).lt hb
  have hlow := h.low
  refine ⟨⟨?_, fun b hb => ?_, ?_, fun b => ?_, fun b b' hb hb' e => ?_, h.ety.to (Below.heap_alloc w _ _ (by have := h.ety.1; omega))⟩, ⟨hle, rfl, rfl, rfl, by simp, fun x hx _ => Below.heap_alloc w _ x hx, fun b hb => ?_, fun b hb => ?_⟩⟩
  · show Nat.succ s.n = r.n + 1; rw [h.n]
  · rcases hb with hb | hb
    · exact Nat.lt_succ_of_lt (h.lt b hb)
    · rw [hb]; exact Nat.lt_succ_self _
  · simp; omega
  · rw [St.h_mk]
    rcases Hp.get_put s.h s.n (.lp 0) b with e | ⟨rfl, e⟩ | ⟨hn, e⟩
    · rw [e]; trivial
    · rw [e, h.n]
      refine ⟨.inr rfl, by rw [hat]; exact hlow, ?_⟩
      rw [hat, World.alloc_heap_new]
      simp [Rho.pushL]
    · rw [e]
      by_cases hno : Hp.get s.h b = .no
      · rw [hno]; trivial
      · exact OkB.le (h.ok b) hle (Below.heap_alloc w _ _ (hold b hno).2)
  · rw [St.h_mk] at hb hb'
    rcases live_put hb with ⟨e1, e2⟩ | ⟨e1, e2⟩ <;> rcases live_put hb' with ⟨k1, k2⟩ | ⟨k1, k2⟩
    · rw [e1, k1]
    · exfalso
      rw [k2] at hb'
      obtain ⟨q1, q2⟩ := hold b' (live_ne hb')
      rw [e1, h.n, hat, (hle.same b' q1).2.1] at e
      omega
    · exfalso
      rw [e2] at hb
      obtain ⟨q1, q2⟩ := hold b (live_ne hb)
      rw [k1, h.n, hat, (hle.same b q1).2.1] at e
      omega
    · rw [e2] at hb
      rw [k2] at hb'
      rw [(hle.same b (hold b (live_ne hb)).1).2.1, (hle.same b' (hold b' (live_ne hb')).1).2.1] at e
      exact h.inj b b' hb hb' e
  · rcases hb with hb | hb
    · exact .inl hb
    · exact .inr (by rw [hb]; exact Nat.le_refl _)
  · rw [St.h_mk] at hb
    rcases live_put hb with ⟨e1, e2⟩ | ⟨e1, e2⟩
    · right; rw [e1, h.n, hat]; exact Nat.le_refl _
    · left
      rw [e2] at hb
      exact ⟨b, hb, by rw [(hle.same b (hold b (live_ne hb)).1).2.1]⟩
/-- A loop's record, in the world. -/
theorem Sim.loop_at (h : Sim B0 r s w) {b p : Nat} (e : Hp.get s.h b = .lp p) : r.has b ∧ B0 ≤ r.blk b ∧ w.heap[r.blk b]? = some (.loop (lpAt (r.lp b) p)) := by
  have := h.ok b
  rw [e] at this
  exact this
/-- .. that is written. -/
theorem Sim.loop_put (h : Sim B0 r s w) {b p q : Nat} (e : Hp.get s.h b = .lp p) : Sim B0 r (.mk (Hp.put s.h b (.lp q)) s.n) (w.putObj (r.blk b) (.loop (lpAt (r.lp b) q))) ∧ Stp r s w r (.mk (Hp.put s.h b (.lp q)) s.n) (w.putObj (r.blk b) (.loop (lpAt (r.lp b) q))) := by
  obtain ⟨h1, h2, h3⟩ := h.loop_at e
  have hlt := (Array.getElem?_eq_some_iff.1 h3).1
  exact h.wrote b (.lp q) (by rw [e]; trivial) ⟨h1, h2, World.putObj_heap_same hlt⟩ rfl rfl rfl (by simp [World.putObj]) fun x _ hx => World.putObj_heap_other hx
/-- .. that is given up. -/
theorem Sim.loop_end (h : Sim B0 r s w) {b p : Nat} (e : Hp.get s.h b = .lp p) (o : Obj) : Sim B0 r (.mk (Hp.put s.h b .no) s.n) (w.putObj (r.blk b) o) ∧ Stp r s w r (.mk (Hp.put s.h b .no) s.n) (w.putObj (r.blk b) o) :=
  h.wrote b .no (by rw [e]; trivial) trivial rfl rfl rfl (by simp [World.putObj]) fun x _ hx => World.putObj_heap_other hx
theorem lpGo_eq {β : Type} {b p q : Nat} {s : St} {bad : β} {f : St → β} : lpGo b p q s bad f = bad ∨ (Hp.get s.h b = .lp p ∧ lpGo b p q s bad f = f (.mk (Hp.put s.h b (.lp q)) s.n)) := by
  unfold lpGo
  cases e : Hp.get s.h b with
  | lp p' =>
    show ifB (Nat.beq p' p) _ _ = _ ∨ _ ∧ ifB (Nat.beq p' p) _ _ = _
    rcases hb : Nat.beq p' p with _ | _
    · exact .inl rfl
    · obtain rfl := Nat.eq_of_beq_eq_true hb
      exact .inr ⟨rfl, rfl⟩
  | _ => exact .inl rfl
/-- The places of a round's arguments. -/
noncomputable def psB : List Tmp → List D → Bool
  | [], [] => true
  | t :: ts, d :: ds => dB (some t) d && psB ts ds
  | _, _ => false
theorem psB_len : ∀ {ts : List Tmp} {ds : List D}, psB ts ds = true → ts.length = ds.length
  | [], [], _ => rfl
  | t :: ts, d :: ds, h => by simp only [psB, Bool.and_eq_true] at h; simp [psB_len h.2]
  | [], _ :: _, h => by cases h
  | _ :: _, [], h => by cases h
theorem ps_put {r : Rho} : ∀ {ts : List Tmp} {ds : List D} {l : AV} {vs : List Value} {fr : Fr} {tmps : Array Value}, psB ts ds = true → RelL r l vs → FrR N r fr { tmps := tmps, defers := [] } →
    FrR N r (psPut ds l fr) { tmps := (ts.zip vs).foldl (fun t p => t.setIfInBounds p.1 p.2) tmps, defers := [] }
  | [], [], l, vs, fr, tmps, _, _, hf => by
    show FrR N r fr { tmps := ([].zip vs).foldl _ tmps, defers := [] }
    rw [List.zip_nil_left]
    exact hf
  | t :: ts, d :: ds, l, vs, fr, tmps, h, hr, hf => by
    simp only [psB, Bool.and_eq_true] at h
    cases l with
    | nil =>
      simp only [RelL] at hr
      subst hr
      show FrR N r fr { tmps := ((t :: ts).zip []).foldl _ tmps, defers := [] }
      rw [List.zip_nil_right]
      exact hf
    | cons x l =>
      obtain ⟨v, vs, rfl, h1, h2⟩ := hr
      have hput := hf.put h.1 h1
      have e : ({ tmps := tmps, defers := [] } : Act).put (some t) v = { tmps := tmps.setIfInBounds t v, defers := [] } := rfl
      rw [e] at hput
      show FrR N r (psPut ds l (D.put d x fr)) { tmps := (ts.zip vs).foldl _ (tmps.setIfInBounds t v), defers := [] }
      exact ps_put h.2 h2 hput
    | _ => simp [RelL] at hr
  | [], _ :: _, _, _, _, _, h, _, _ => by cases h
  | _ :: _, [], _, _, _, _, h, _, _ => by cases h
theorem Base.env {r1 : Rho} (h : Base NG r) (hl : r.Le r1) {r' : Rho} (hb : Base ⟨NG.ng, some r1, NG.opq⟩ r') : Base NG r' := by
  have := hb.from_ r1 rfl
  exact ⟨hb.glob, fun r0 e => ((h.from_ r0 e).trans hl).trans this, hb.few, hb.inj, hb.opq⟩
end
end Go.Proofs.YtenpbpgoglepfaaGreatDoor
namespace Go.Proofs.YtenpbpgoglepfaaGreatDoor
open Go.RowKit
set_option linter.unusedVariables false

section
variable {P : Program} {NG : Env} {B0 N : Nat}
theorem COk.env {r r1 : Rho} {c : CallE} (hb : Base NG r) (hl : r.Le r1) (h : COk P NG B0 c) : COk P ⟨NG.ng, some r1, NG.opq⟩ B0 c := fun g ar s v s' hg e r' w args hb' hs hr => h g ar s v s' hg e r' w args (hb.env hl hb') hs hr
theorem YOk.env {r r1 : Rho} {c : CallE} (hb : Base NG r) (hl : r.Le r1) (h : YOk P NG B0 c) : YOk P ⟨NG.ng, some r1, NG.opq⟩ B0 c := fun b ar s v s' e r' w vals hb' hs hh hr => h b ar s v s' e r' w vals (hb.env hl hb') hs hh hr
theorem beq_false {a b : Nat} (h : a < b) : Nat.beq a b = false := by
  cases e : Nat.beq a b with
  | false => rfl
  | true => exact absurd (Nat.eq_of_beq_eq_true e) (Nat.ne_of_lt h)
/-- What a round's end does. -/
theorem rndEnd_ok {lo b : Nat} {r2 r3 : Rho} {s2 s3 : St} {w2 w3 : World} {out : R} {v : AV} {s' : St} {rec : Loop} (hrun : rndEnd b out = .ok v s') (hl : r2.has b) (hrec : r2.lp b = rec) (hst : Stp r2 s2 w2 r3 s3 w3) {l : Nat} (hbl : r2.blk b = l) :
    Post B0 N lo r3 s3 w3 out (roundPost P l fun e w' => ∃ x, e = .returned x ∧ ∃ r', Rel r' v x ∧ Sim B0 r' s' w' ∧ Stp r2 s2 w2 r' s' w') := by
  have key : ∀ (q : Nat) (ans : Bool) (jump : Option Code) (s4 : St) (a4 : Act) (w4 : World) (r4 : Rho), Sim B0 r4 s4 w4 → Stp r3 s3 w3 r4 s4 w4 → lpGo b 1 q s4 .bad (fun s => RC.ok (.b ans) s) = .ok v s' → jump.isNone = ans →
      (∀ L : Loop, ({ lpAt L 1 with state := if jump.isNone then .ready else .done, pending := jump } : Loop) = lpAt L q) →
      ∃ v' w', (Instr.endRound l jump).run P w4 = .ok v' w' ∧ ∃ x, Ending.returned v' = .returned x ∧ ∃ r', Rel r' v x ∧ Sim B0 r' s' w' ∧ Stp r2 s2 w2 r' s' w' := by
    intro q ans jump s4 a4 w4 r4 h1 h2 hgo hans hlp
    rcases lpGo_eq (b := b) (p := 1) (q := q) (s := s4) (bad := RC.bad) (f := fun s => RC.ok (.b ans) s) with e | ⟨e1, e2⟩
    · rw [e] at hgo; cases hgo
    · rw [e2] at hgo
      cases hgo
      have hle := hst.le.trans h2.le
      have hbl4 : r4.blk b = l := ((hle.same b hl).2.1).trans hbl
      have hat := (h1.loop_at e1).2.2
      rw [hbl4] at hat
      obtain ⟨g1, g2⟩ := h1.loop_put (q := q) e1
      refine ⟨_, _, run_endRound jump hat, _, rfl, r4, ?_, ?_, ?_⟩
      · show Rel r4 (.b ans) (.bool jump.isNone)
        rw [hans]; rfl
      · rw [hlp, ← hbl4]; exact g1
      · rw [hlp, ← hbl4]; exact (hst.trans h2).trans g2
  cases out with
  | bad => cases hrun
  | nrm fr4 s4 => exact fun a4 w4 r4 h1 h2 h3 h4 => key 0 true none s4 a4 w4 r4 h1 h2 hrun rfl fun L => rfl
  | rt fr4 s4 => exact fun a4 w4 r4 h1 h2 h3 h4 => key 2 false (some .ret) s4 a4 w4 r4 h1 h2 hrun rfl fun L => rfl
  | ex id fr4 s4 => exact fun a4 w4 r4 h1 h2 h3 h4 => key (id + 3) false (some (.exit id)) s4 a4 w4 r4 h1 h2 hrun rfl fun L => rfl
/-- Rounds are as they should be. -/
theorem hY_ok {r1 : Rho} {fr : Fr} {tmps : Array Value} {ps : Array Tmp} {psD : List D} {asg bd : Code} {asC bdC : C} {c : CallE} {b l : Nat} {rec : Loop} (hc : CAll P ⟨NG.ng, some r1, NG.opq⟩ B0 c) (hps : psB ps.toList psD = true) (hfr : FrR N r1 fr { tmps := tmps, defers := [] })
    (hb1 : r1.has b) (hbl : r1.blk b = l) (hrec : r1.lp b = rec) (hr1 : rec.tmps = tmps) (hr2 : rec.params = ps) (hr3 : rec.assign = asg) (hr4 : rec.body = bd)
    (ha : CSnd P ⟨NG.ng, some r1, NG.opq⟩ B0 N (CAll P ⟨NG.ng, some r1, NG.opq⟩ B0) (some l) asg asC) (hbd : CSnd P ⟨NG.ng, some r1, NG.opq⟩ B0 N (CAll P ⟨NG.ng, some r1, NG.opq⟩ B0) (some l) bd bdC) :
    CAll P ⟨NG.ng, some r1, NG.opq⟩ B0 (hY fr psD (evC asC) (evC bdC) c b) := by
  refine ⟨fun g ar s v s' hg e r w args hbs hs hr => ?_, fun b' ar s2 v s' hrun r2 w2 vals hbs hs2 hh hr => ?_⟩
  · have e2 : hY fr psD (evC asC) (evC bdC) c b g ar s = c g ar s := by
      unfold hY
      rw [beq_false hg]
      rfl
    rw [e2] at e
    exact hc.1 g ar s v s' hg e r w args hbs hs hr
  · have e2 : hY fr psD (evC asC) (evC bdC) c b yN (.cons (.y b') ar) s2 = ifB (Nat.beq b b') (ifB (Nat.beq (lenL ar) psD.length) (lpGo b 0 0 s2 .bad fun _ => rndAs b (evC bdC c) (evC asC c (psPut psD ar fr) s2)) .bad) .bad := by
      unfold hY
      rw [show Nat.beq yN yN = true from Nat.beq_refl yN]
      rfl
    rw [e2] at hrun
    rcases q1 : Nat.beq b b' with _ | _
    · rw [q1] at hrun; cases hrun
    obtain rfl := Nat.eq_of_beq_eq_true q1
    rw [q1] at hrun
    rcases q2 : Nat.beq (lenL ar) psD.length with _ | _
    · rw [q2] at hrun; cases hrun
    rw [q2] at hrun
    replace q2 := Nat.eq_of_beq_eq_true q2
    replace hrun : lpGo b 0 0 s2 .bad (fun _ => rndAs b (evC bdC c) (evC asC c (psPut psD ar fr) s2)) = .ok v s' := hrun
    rcases lpGo_eq (b := b) (p := 0) (q := 0) (s := s2) (bad := RC.bad) (f := fun _ => rndAs b (evC bdC c) (evC asC c (psPut psD ar fr) s2)) with e | ⟨e1, e3⟩
    · rw [e] at hrun; cases hrun
    rw [e3] at hrun
    have hle : r1.Le r2 := hbs.from_ r1 rfl
    have hbl2 : r2.blk b = l := ((hle.same b hb1).2.1).trans hbl
    have hrec2 : r2.lp b = rec := (hle.loop b hb1).trans hrec
    have hat := (hs2.loop_at e1).2.2
    rw [hbl2, hrec2] at hat
    rw [hbl2]
    have hlen := relL_len hr
    rw [Array.length_toList] at hlen
    have hsz : vals.size = (lpAt rec 0).params.size := by
      show vals.size = rec.params.size
      rw [hr2, ← hlen, q2, ← psB_len hps, Array.length_toList]
    refine ⟨_, _, _, _, run_yield hat hsz, ?_⟩
    show RoundIn (Wd none) 0 P l rec.fn ((rec.params.zip vals).foldl (fun tmps x => match x with | (t, a) => tmps.setIfInBounds t a) rec.tmps) rec.assign rec.body w2 _
    rw [hr1, hr2, hr3, hr4]
    refine roundIn_of_wpIn trivial ?_
    have hfr2 : FrR N r2 (psPut psD ar fr) { tmps := (ps.zip vals).foldl (fun tmps x => match x with | (t, a) => tmps.setIfInBounds t a) tmps, defers := [] } := by
      have := ps_put hps hr (hfr.le hle)
      have e4 : (ps.zip vals).foldl (fun tmps x => match x with | (t, a) => tmps.setIfInBounds t a) tmps = (ps.toList.zip vals.toList).foldl (fun t p => t.setIfInBounds p.1 p.2) tmps := by
        rw [← Array.foldl_toList, Array.toList_zip]
      rw [e4]
      exact this
    have main : asg.wpIn (Wd (some l)) 0 P (Exit.then (fun a₁ w₁ => ∃ w₂, (Instr.beginRound l).run P w₁ = .ok () w₂ ∧ bd.wpIn (Wd (some l)) 0 P (roundPost P l fun e w' => ∃ x, e = .returned x ∧ ∃ r', Rel r' v x ∧ Sim B0 r' s' w' ∧ Stp r2 s2 w2 r' s' w') a₁ w₂) (fun _ _ _ => False))
        { tmps := (ps.zip vals).foldl (fun tmps x => match x with | (t, a) => tmps.setIfInBounds t a) tmps, defers := [] } w2 := by
      refine ha c hc (psPut psD ar fr) s2 r2 w2 _ w2.heap.size hbs hs2 hfr2 (DfOk.nil (Nat.le_refl _)) _ ?_
      generalize evC asC c (psPut psD ar fr) s2 = out at hrun
      cases out with
      | bad => cases hrun
      | ex id fr3 s3 => cases hrun
      | rt fr3 s3 => cases hrun
      | nrm fr3 s3 =>
        intro a3 w3 r3 k1 k2 k3 k4
        replace hrun : lpGo b 0 1 s3 .bad (fun s => rndEnd b (evC bdC c fr3 s)) = .ok v s' := hrun
        rcases lpGo_eq (b := b) (p := 0) (q := 1) (s := s3) (bad := RC.bad) (f := fun s => rndEnd b (evC bdC c fr3 s)) with e | ⟨e5, e6⟩
        · rw [e] at hrun; cases hrun
        rw [e6] at hrun
        have hbl3 : r3.blk b = l := ((k2.le.same b hh).2.1).trans hbl2
        have hrec3 : r3.lp b = rec := (k2.le.loop b hh).trans hrec2
        have hat3 := (k1.loop_at e5).2.2
        rw [hbl3, hrec3] at hat3
        obtain ⟨g1, g2⟩ := k1.loop_put (q := 1) e5
        rw [hbl3, hrec3] at g1 g2
        refine ⟨_, run_beginRound hat3 rfl, ?_⟩
        exact hbd c hc fr3 _ r3 _ a3 w2.heap.size (hbs.le k2.le) g1 k3 (k4.stp g2) _ (rndEnd_ok hrun hh hrec2 (k2.trans g2) hbl2)
    exact main
end
end Go.Proofs.YtenpbpgoglepfaaGreatDoor
