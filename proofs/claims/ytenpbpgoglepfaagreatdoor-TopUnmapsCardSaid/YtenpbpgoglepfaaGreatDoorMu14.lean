/- The evaluator stands for the program: every row of the table; all calls. No condition. -/
import Derived.Test.YtenpbpgoglepfaaGreatDoorMu13
import Derived.LaidEql
import Derived.Test.YtenpbpgoglepfaaGreatDoorMu8
import Derived.Test.YtenpbpgoglepfaaGreatDoorMu1
import Derived.Test.YtenpbpgoglepfaaGreatDoorChecked
import Derived.LaidHandle
namespace Go.Proofs.YtenpbpgoglepfaaGreatDoor
open Go.RowKit
set_option linter.unusedVariables false
theorem eqT_ok : EqT Tryz.prog := ⟨by
  obtain ⟨i, hi, hcmp⟩ := Option.map_eq_some_iff.1 Tryz.isComp
  obtain ⟨j, hj, hjs⟩ := Option.map_eq_some_iff.1 Tryz.isSize
  exact ⟨_, i, j, Tryz.underlying465, hi, hcmp, hj, by rw [hjs]; decide⟩⟩
theorem mt_ok : MtOk Tryz.prog mt0 := fun t n g h v w => by
  simp only [mt0, List.mem_cons, Prod.mk.injEq, or_false, List.not_mem_nil] at h
  rcases h with ⟨rfl, rfl, rfl⟩ | ⟨rfl, rfl, rfl⟩ | ⟨rfl, rfl, rfl⟩ <;> kernel_rfl
theorem kn_ok : Kn Tryz.prog mt0 := ⟨eqT_ok, mt_ok⟩
theorem mixed_ok : Tryz.prog.follows .mixedOrders = true := by kernel_rfl
theorem tab_ok {E : Env} {B0 : Nat} (hE : E.ng = 18) (n : Nat) : FnOk Tryz.prog E B0 n (tabF n) := by
  by_cases h1 : n = 114
  · subst h1
    exact prIs_ok
  by_cases h2 : n = 352
  · subst h2
    exact prIdx_ok
  by_cases h3 : n = 64
  · subst h3
    exact prSorted_ok
  by_cases h4 : n = 219
  · subst h4
    exact prClone_ok
  by_cases hn : n < 512
  · have hr := rowOk_all n hn
    unfold rowOk at hr
    split at hr
    · rename_i e; rw [e]; exact fnOk_no
    · exfalso
      simp only [Bool.or_eq_true] at hr
      rcases hr with h | h | h | h
      · exact h1 (Nat.eq_of_beq_eq_true h)
      · exact h2 (Nat.eq_of_beq_eq_true h)
      · exact h3 (Nat.eq_of_beq_eq_true h)
      · exact h4 (Nat.eq_of_beq_eq_true h)
    · rename_i a b c e
      rw [e]
      split at hr
      · rename_i fn hf
        refine fnOk_x (mt := mt0) kn_ok (ckD := ckDD Tryz.prog E.ng mt0) (fun E' ro N id ops l he h => snd_dd mixed_ok kn_ok E' ro N id ops l he h) hf (by rw [hE]; exact hr)
      · cases hr
  · have e : tabF n = .no := by
      unfold tabF
      rcases h : Nat.blt n 512 with _ | _
      · rfl
      · exact absurd (blt_lt h) hn
    rw [e]
    exact fnOk_no
theorem eval_ok {E : Env} {B0 : Nat} (hE : E.ng = 18) (n : Nat) : CAll Tryz.prog E B0 (evF tabF n) := evF_ok (tab_ok hE) (by
  unfold tabF
  rfl) n
end Go.Proofs.YtenpbpgoglepfaaGreatDoor
namespace Go.Proofs.YtenpbpgoglepfaaGreatDoor
open Go.RowKit
set_option linter.unusedVariables false

/-- The errors, by their variables' numbers. -/
def errG (g : Nat) : Nat := match g with
  | 1 => 1 | 3 => 2 | 5 => 3 | 7 => 4 | 4 => 5 | 6 => 6 | 8 => 7 | 9 => 8 | 10 => 9 | 11 => 10 | 12 => 11 | 13 => 12 | 14 => 13 | 2 => 14 | 0 => 15 | 16 => 16 | _ => 0
noncomputable def putE (k : Nat) (h : Hp) : Hp := Hp.put (Hp.put h (gno k) (.ro (Cs.put Cs.non 0 (.ifc 465 (.p (17 + k) 0))))) (17 + k) (.ro (Cs.put Cs.non 0 (.str ((gtext k).map fun b => b.toNat))))
/-- What is known at the start: error k's variable, and its text in ghost block 17 + k. -/
noncomputable def st0 : St := .mk (putE 16 (putE 15 (putE 14 (putE 13 (putE 12 (putE 11 (putE 10 (putE 9 (putE 8 (putE 7 (putE 6 (putE 5 (putE 4 (putE 3 (putE 2 (putE 1 Hp.non)))))))))))))))) 34
def allE : List Nat := [1, 2, 3, 4, 5, 6, 7, 8, 9, 10, 11, 12, 13, 14, 15, 16]
def rho0 (w : World) (A : Nat → Addr) (o : Nat → Value) : Rho := ⟨34, fun b => b < 34, fun b => if b < 18 then b else (A (b - 17)).block, fun b => if b < 18 then 0 else (A (b - 17)).off, fun b => match w.heap[if b < 18 then b else (A (b - 17)).block]? with | some (.cells cs _ _) => cs.size | _ => 0, fun _ => default, o⟩
def env0 (o : Nat → Value) : Env := ⟨18, none, o⟩
theorem base0 {w : World} {B : Nat} {A : Nat → Addr} {o : Nat → Value} (hE : Errs w B allE A) : Base (env0 o) (rho0 w A o) :=
  ⟨fun g hg => ⟨Nat.lt_of_lt_of_le (show g < 18 from hg) (by decide), if_pos hg, if_pos hg⟩, fun r1 h => (by cases h), fun g hg => hg, fun g g' hg hg' hl hl' e e2 => by
    have hg : g < 34 := hg
    have hg' : g' < 34 := hg'
    have hl : 18 ≤ g := hl
    have hl' : 18 ≤ g' := hl'
    simp only [rho0, if_neg (show ¬ g < 18 by omega), if_neg (show ¬ g' < 18 by omega)] at e e2
    have mem : ∀ g, 18 ≤ g → g < 34 → g - 17 ∈ allE := fun g h1 h2 => by
      have : g - 17 ≤ 16 ∧ 1 ≤ g - 17 := by omega
      generalize g - 17 = k at this
      simp only [allE, List.mem_cons, List.not_mem_nil, or_false]
      omega
    have s1 := (hE.1 _ (mem g hl hg)).2.2.2.1
    have s2 := (hE.1 _ (mem g' hl' hg')).2.2.2.1
    have := hE.2 _ (mem g hl hg) _ (mem g' hl' hg') (by
      cases h1 : A (g - 17) with
      | mk b o s => cases h2 : A (g' - 17) with
        | mk b' o' s' => rw [h1] at e e2 s1; rw [h2] at e e2 s2; simp_all)
    omega, rfl⟩
theorem sim0 {w : World} {B : Nat} {A : Nat → Addr} {o : Nat → Value} (hE : Errs w B allE A) (hB : B ≤ w.heap.size) (hy : ETy0 B w) (hG : ∀ k ∈ allE, ∃ c t, w.heap[gno k]? = some (.cells c t (0, 0))) : Sim B (rho0 w A o) st0 w := by
  have put : ∀ (h : Hp) (b : Nat) (g : GB), (∀ b, OkB B (rho0 w A o) w b (Hp.get h b) ∧ ¬ (Hp.get h b).live) → OkB B (rho0 w A o) w b g → ¬ g.live → ∀ b', OkB B (rho0 w A o) w b' (Hp.get (Hp.put h b g) b') ∧ ¬ (Hp.get (Hp.put h b g) b').live := fun h b g hh hg hl b' => by
    rcases Hp.get_put h b g b' with e | ⟨rfl, e⟩ | ⟨_, e⟩
    · rw [e]; exact ⟨trivial, fun h => h⟩
    · rw [e]; exact ⟨hg, hl⟩
    · rw [e]; exact hh b'
  have row : ∀ (b : Nat) (v : AV) (x : Value) (c : Array Value) (t : TypeId), b < 34 → w.heap[(rho0 w A o).blk b]? = some (.cells c t (0, 0)) → (rho0 w A o).blk b < B → c[(rho0 w A o).off b]? = some x → Rel (rho0 w A o) v x → OkB B (rho0 w A o) w b (.ro (Cs.put Cs.non 0 v)) := fun b v x c t hb hh hlt hc hr => by
    refine ⟨⟨hb, c, t, (0, 0), hh, ?_, fun q ho => ?_, .inl rfl⟩, hlt, c, t, hh⟩
    · have hh' : w.heap[if b < 18 then b else (A (b - 17)).block]? = some (.cells c t (0, 0)) := hh
      simp only [rho0, hh']
    · rcases Cs.get_put Cs.non 0 v q with e | ⟨rfl, e⟩ | ⟨_, e⟩
      · exact absurd e ho
      · rw [e]
        exact ⟨x, by rw [Nat.add_zero]; exact hc, hr⟩
      · exact absurd (e.trans (Cs.get_non q)) ho
  have step : ∀ k ∈ allE, ∀ h : Hp, (∀ b, OkB B (rho0 w A o) w b (Hp.get h b) ∧ ¬ (Hp.get h b).live) → ∀ b, OkB B (rho0 w A o) w b (Hp.get (putE k h) b) ∧ ¬ (Hp.get (putE k h) b).live := fun k hk h hh => by
    obtain ⟨h1, h2, h3, h4, ⟨c2, t2, h5⟩, h6⟩ := hE.1 k hk
    obtain ⟨c1, t1, hg⟩ := hG k hk
    have hk1 : 1 ≤ k ∧ k ≤ 16 := by
      simp only [allE, List.mem_cons, List.not_mem_nil, or_false] at hk
      omega
    have hgn : gno k < 18 := by
      simp only [allE, List.mem_cons, List.not_mem_nil, or_false] at hk
      rcases hk with rfl | rfl | rfl | rfl | rfl | rfl | rfl | rfl | rfl | rfl | rfl | rfl | rfl | rfl | rfl | rfl <;> decide
    have e1 : (rho0 w A o).blk (gno k) = gno k ∧ (rho0 w A o).off (gno k) = 0 := ⟨if_pos hgn, if_pos hgn⟩
    have e2 : (rho0 w A o).blk (17 + k) = (A k).block ∧ (rho0 w A o).off (17 + k) = (A k).off := by
      have : 17 + k - 17 = k := by omega
      simp only [rho0, if_neg (show ¬ 17 + k < 18 by omega), this, and_self]
    have hA : A k = ⟨(A k).block, (A k).off, none⟩ := by
      cases h : A k with
      | mk b o s => rw [h] at h4; simp_all
    unfold putE
    refine put _ _ _ (put _ _ _ hh (row (gno k) _ _ c1 t1 (by omega) (by rw [e1.1]; exact hg) (by rw [e1.1]; exact h2) (by rw [e1.2]; rw [cell_at hg] at h1; exact h1) ?_) (fun h => h)) (row (17 + k) _ _ c2 t2 (by omega) (by rw [e2.1]; exact h5) (by rw [e2.1]; exact h3) (by rw [e2.2]; rw [hA, cell_at h5] at h6; exact h6) ?_) (fun h => h)
    · refine ⟨_, rfl, ?_, ?_⟩
      · show 17 + k < 34
        omega
      · rw [e2.1, e2.2, Nat.add_zero, ← hA]
    · exact ⟨_, rfl, rfl⟩
  have all : ∀ b, OkB B (rho0 w A o) w b (Hp.get st0.h b) ∧ ¬ (Hp.get st0.h b).live := by
    have h0 : ∀ b, OkB B (rho0 w A o) w b (Hp.get Hp.non b) ∧ ¬ (Hp.get Hp.non b).live := fun b => by rw [Hp.get_non]; exact ⟨trivial, fun h => h⟩
    exact step 16 (by decide) _ (step 15 (by decide) _ (step 14 (by decide) _ (step 13 (by decide) _ (step 12 (by decide) _ (step 11 (by decide) _ (step 10 (by decide) _ (step 9 (by decide) _ (step 8 (by decide) _ (step 7 (by decide) _ (step 6 (by decide) _ (step 5 (by decide) _ (step 4 (by decide) _ (step 3 (by decide) _ (step 2 (by decide) _ (step 1 (by decide) _ h0)))))))))))))))
  exact ⟨rfl, fun b h => h, hB, fun b => (all b).1, fun b b' hb _ _ => absurd hb (all b).2, hy⟩
end Go.Proofs.YtenpbpgoglepfaaGreatDoor
namespace Go.Proofs.YtenpbpgoglepfaaGreatDoor
open Go.RowKit
set_option linter.unusedVariables false
theorem run0 {w : World} {A : Nat → Addr} {o : Nat → Value} (hE : Errs w w.heap.size allE A) (hy : ETy0 w.heap.size w) (hG : ∀ k ∈ allE, ∃ c t, w.heap[gno k]? = some (.cells c t (0, 0))) {n g : Nat} (hg : g < yN) {ar v : AV} {s' : St} (h : evF tabF n g ar st0 = .ok v s') {args : Array Value} (hr : RelL (rho0 w A o) ar args.toList) :
    CallsF Tryz.prog g args w fun x w' => ∃ r', Base (env0 o) r' ∧ Rel r' v x ∧ Sim w.heap.size r' s' w' ∧ Below w.heap.size w w' := by
  have hs := sim0 (o := o) hE (Nat.le_refl _) hy hG
  have k := (eval_ok (E := env0 o) (B0 := w.heap.size) rfl n).1 g ar st0 v s' hg h (rho0 w A o) w args (base0 hE) hs hr
  have f : ∀ x w', (∃ r', Rel r' v x ∧ Sim w.heap.size r' s' w' ∧ Stp (rho0 w A o) st0 w r' s' w') → ∃ r', Base (env0 o) r' ∧ Rel r' v x ∧ Sim w.heap.size r' s' w' ∧ Below w.heap.size w w' := fun x w' ⟨r', h1, h2, h3⟩ => ⟨r', (base0 hE).le h3.le, h1, h2, Stp.below hs h3⟩
  rcases k with ⟨k1, k2⟩ | ⟨x, w', k1, k2⟩
  · exact .inl ⟨k1, k2.mono fun e w' ⟨x, he, hx⟩ => ⟨x, he, f x w' hx⟩⟩
  · exact .inr ⟨x, w', k1, f x w' k2⟩
end Go.Proofs.YtenpbpgoglepfaaGreatDoor
namespace Go.Proofs.YtenpbpgoglepfaaGreatDoor
open Go.RowKit
set_option linter.unusedVariables false
noncomputable def F.all2 {α : Type} (p : α → α → Bool) (s t : F α) : Bool := F.rec (motive := fun _ => Bool) (fun a0 a1 a2 a3 a4 a5 a6 a7 a8 a9 aa ab ac ad ae af => F.rec (motive := fun _ => Bool) (fun c0 c1 c2 c3 c4 c5 c6 c7 c8 c9 ca cb cc cd ce cf =>
  p a0 c0 && (p a1 c1 && (p a2 c2 && (p a3 c3 && (p a4 c4 && (p a5 c5 && (p a6 c6 && (p a7 c7 && (p a8 c8 && (p a9 c9 && (p aa ca && (p ab cb && (p ac cc && (p ad cd && (p ae ce && p af cf))))))))))))))) t) s
theorem F.all2_eq {α : Type} {p : α → α → Bool} (hp : ∀ a c, p a c = true → a = c) {s t : F α} (h : F.all2 p s t = true) : s = t := by
  cases s
  cases t
  simp only [F.all2, Bool.and_eq_true] at h
  obtain ⟨h0, h1, h2, h3, h4, h5, h6, h7, h8, h9, ha, hb, hc, hd, he, hf⟩ := h
  rw [hp _ _ h0, hp _ _ h1, hp _ _ h2, hp _ _ h3, hp _ _ h4, hp _ _ h5, hp _ _ h6, hp _ _ h7, hp _ _ h8, hp _ _ h9, hp _ _ ha, hp _ _ hb, hp _ _ hc, hp _ _ hd, hp _ _ he, hp _ _ hf]
noncomputable def eqCs : Cs → Cs → Bool
  | .c1 f, .c1 g => F.all2 sameA f g
  | .c2 f, .c2 g => F.all2 (F.all2 sameA) f g
  | .c3 f, .c3 g => F.all2 (F.all2 (F.all2 sameA)) f g
  | _, _ => false
theorem eqCs_eq {a c : Cs} (h : eqCs a c = true) : a = c := by
  unfold eqCs at h
  split at h
  · rw [F.all2_eq (fun _ _ h => sameA_eq h) h]
  · rw [F.all2_eq (fun _ _ h => F.all2_eq (fun _ _ h => sameA_eq h) h) h]
  · rw [F.all2_eq (fun _ _ h => F.all2_eq (fun _ _ h => F.all2_eq (fun _ _ h => sameA_eq h) h) h) h]
  · cases h
noncomputable def eqGB : GB → GB → Bool
  | .ro a, .ro c => eqCs a c
  | .rw a, .rw c => eqCs a c
  | .mp a, .mp c => sameA a c
  | _, _ => false
theorem eqGB_eq {a c : GB} (h : eqGB a c = true) : a = c := by
  unfold eqGB at h
  split at h
  · rw [eqCs_eq h]
  · rw [eqCs_eq h]
  · rw [sameA_eq h]
  · cases h
noncomputable def hpOf : List (Nat × GB) → Hp
  | [] => Hp.non
  | (b, g) :: l => Hp.put (hpOf l) b g
noncomputable def inHp (h : Hp) : List (Nat × GB) → Bool
  | [] => true
  | (b, g) :: l => eqGB (Hp.get h b) g && inHp h l
theorem hpOf_sub {h : Hp} : ∀ {l : List (Nat × GB)}, inHp h l = true → ∀ b, Hp.get (hpOf l) b = .no ∨ Hp.get (hpOf l) b = Hp.get h b
  | [], _, b => .inl (Hp.get_non b)
  | (b0, g) :: l, hl, b => by
    simp only [inHp, Bool.and_eq_true] at hl
    rcases Hp.get_put (hpOf l) b0 g b with e | ⟨rfl, e⟩ | ⟨_, e⟩
    · exact .inl e
    · exact .inr (e.trans (eqGB_eq hl.1).symm)
    · rcases hpOf_sub hl.2 b with e' | e'
      · exact .inl (e.trans e')
      · exact .inr (e.trans e')
noncomputable def cutB (r : RC) (v : AV) (n : Nat) (l : List (Nat × GB)) : Bool := RC.rec (motive := fun _ => Bool) false (fun v' s' => sameA v' v && (Nat.beq s'.n n && inHp s'.h l)) r
/-- A run that ends as listed stands for a call. -/
theorem cut_ok {n g : Nat} {ar v : AV} {s : St} {n1 : Nat} {l : List (Nat × GB)} (h : cutB (evF tabF n g ar s) v n1 l = true) (hg : g < yN) {E : Env} (hE : E.ng = 18) {B0 : Nat} {r : Rho} {w : World} {args : Array Value} (hb : Base E r) (hs : Sim B0 r s w) (hr : RelL r ar args.toList) :
    CallsF Tryz.prog g args w fun x w' => ∃ r', Rel r' v x ∧ Sim B0 r' (.mk (hpOf l) n1) w' ∧ Stp r s w r' (.mk (hpOf l) n1) w' := by
  cases he : evF tabF n g ar s with
  | bad => rw [he] at h; cases h
  | ok v' s' =>
    rw [he] at h
    have h : (sameA v' v && (Nat.beq s'.n n1 && inHp s'.h l)) = true := h
    simp only [Bool.and_eq_true] at h
    obtain ⟨h1, h2, h3⟩ := h
    obtain rfl := sameA_eq h1
    obtain rfl := Nat.eq_of_beq_eq_true h2
    have hsub : ∀ b, Hp.get (St.mk (hpOf l) s'.n).h b = .no ∨ Hp.get (St.mk (hpOf l) s'.n).h b = Hp.get s'.h b := hpOf_sub h3
    have f : ∀ x w', (∃ r', Rel r' v' x ∧ Sim B0 r' s' w' ∧ Stp r s w r' s' w') → ∃ r', Rel r' v' x ∧ Sim B0 r' (.mk (hpOf l) s'.n) w' ∧ Stp r s w r' (.mk (hpOf l) s'.n) w' := fun x w' ⟨r', k1, k2, k3⟩ => ⟨r', k1, k2.sub rfl hsub, k3.to fun b hl => by
      rcases hsub b with e | e
      · rw [e] at hl; exact hl.elim
      · rw [← e]; exact hl⟩
    rcases (eval_ok (E := E) (B0 := B0) hE n).1 g ar s v' s' hg he r w args hb hs hr with ⟨k1, k2⟩ | ⟨x, w', k1, k2⟩
    · exact .inl ⟨k1, k2.mono fun e w' ⟨x, hx, hy⟩ => ⟨x, hx, f x w' hy⟩⟩
    · exact .inr ⟨x, w', k1, f x w' k2⟩
end Go.Proofs.YtenpbpgoglepfaaGreatDoor
namespace Go.Proofs.YtenpbpgoglepfaaGreatDoor
open Go.RowKit
set_option linter.unusedVariables false
abbrev BL := List (Nat × GB)
/-- A call: its arguments; how many blocks there are; those that it looks at alone; those that change; its value; how many blocks there are then; what changed, and what is new. -/
inductive Ent where
  | mk (ar : AV) (n : Nat) (lu lc : BL) (v : AV) (n' : Nat) (l' : BL)
  | lo (ar : AV) (n : Nat) (lu lc : BL) (v : AV) (l' : BL)
noncomputable def F.all1 {α : Type} (p : α → Bool) (t : F α) : Bool := F.rec (motive := fun _ => Bool) (fun c0 c1 c2 c3 c4 c5 c6 c7 c8 c9 ca cb cc cd ce cf =>
  p c0 && (p c1 && (p c2 && (p c3 && (p c4 && (p c5 && (p c6 && (p c7 && (p c8 && (p c9 && (p ca && (p cb && (p cc && (p cd && (p ce && p cf))))))))))))))) t
theorem F.all1_get {α : Type} {p : α → Bool} {t : F α} (h : F.all1 p t = true) (x : H) : p (F.get x t) = true := by
  cases t
  simp only [F.all1, Bool.and_eq_true] at h
  obtain ⟨h0, h1, h2, h3, h4, h5, h6, h7, h8, h9, ha, hb, hc, hd, he, hf⟩ := h
  cases x <;> assumption
noncomputable def belC (n : Nat) (c : Cs) : Bool := Cs.rec (motive := fun _ => Bool) (fun f => F.all1 (belA n) f) (fun f => F.all1 (F.all1 (belA n)) f) (fun f => F.all1 (F.all1 (F.all1 (belA n))) f) c
noncomputable def belG (n : Nat) (g : GB) : Bool := GB.rec (motive := fun _ => Bool) true (fun c => belC n c) (fun c => belC n c) (fun l => belA n l) (fun _ => false) g
noncomputable def belL (n : Nat) (l : BL) : Bool := List.rec (motive := fun _ => Bool) true (fun e _ ih => Prod.rec (motive := fun _ => Bool) (fun b g => ifB (Nat.blt b n) (ifB (belG n g) ih false) false) e) l
theorem belC_get {n : Nat} {c : Cs} (h : belC n c = true) (o : Nat) : belA n (Cs.get c o) = true := by
  have key : ∀ (b : Bool) (v : AV), belA n v = true → belA n (ifB b v .u) = true := fun b v hv => by cases b; exact rfl; exact hv
  cases c with
  | c1 f => exact key _ _ (F.all1_get h _)
  | c2 f => exact key _ _ (F.all1_get (F.all1_get h _) _)
  | c3 f => exact key _ _ (F.all1_get (F.all1_get (F.all1_get h _) _) _)
theorem belL_mem {n b : Nat} {g : GB} : ∀ {l : BL}, belL n l = true → (b, g) ∈ l → b < n ∧ belG n g = true
  | [], _, hm => by cases hm
  | (b0, g0) :: l, hl, hm => by
    have hl : ifB (Nat.blt b0 n) (ifB (belG n g0) (belL n l) false) false = true := hl
    rcases h1 : Nat.blt b0 n with _ | _
    · rw [h1] at hl; cases hl
    rcases h2 : belG n g0 with _ | _
    · rw [h1, h2] at hl; cases hl
    rw [h1, h2] at hl
    rcases List.mem_cons.1 hm with e | hm
    · injection e with e1 e2
      rw [e1, e2]
      exact ⟨blt_lt h1, h2⟩
    · exact belL_mem hl hm
noncomputable def putH (l : BL) (h : Hp) : Hp := List.rec (motive := fun _ => Hp) h (fun e _ ih => Prod.rec (motive := fun _ => Hp) (fun b g => Hp.put ih b g) e) l
noncomputable def delH (l : BL) (h : Hp) : Hp := List.rec (motive := fun _ => Hp) h (fun e _ ih => Prod.rec (motive := fun _ => Hp) (fun b _ => Hp.put ih b .no) e) l
noncomputable def inH (h : Hp) (l : BL) : Bool := List.rec (motive := fun _ => Bool) true (fun e _ ih => Prod.rec (motive := fun _ => Bool) (fun b g => ifB (eqGB (Hp.get h b) g) ih false) e) l
noncomputable def stE (n : Nat) (lu lc : BL) : St := .mk (putH lc (putH lu Hp.non)) n
theorem putH_mem {h : Hp} {b : Nat} : ∀ {l : BL}, Hp.get (putH l h) b = .no ∨ (∃ g, (b, g) ∈ l ∧ Hp.get (putH l h) b = g) ∨ Hp.get (putH l h) b = Hp.get h b
  | [] => .inr (.inr rfl)
  | (b0, g0) :: l => by
    show Hp.get (Hp.put (putH l h) b0 g0) b = .no ∨ (∃ g, (b, g) ∈ (b0, g0) :: l ∧ Hp.get (Hp.put (putH l h) b0 g0) b = g) ∨ Hp.get (Hp.put (putH l h) b0 g0) b = Hp.get h b
    rcases Hp.get_put (putH l h) b0 g0 b with e | ⟨rfl, e⟩ | ⟨_, e⟩
    · exact .inl e
    · exact .inr (.inl ⟨g0, by simp, e⟩)
    · rw [e]
      rcases putH_mem (h := h) (b := b) (l := l) with k | ⟨g, k1, k2⟩ | k
      · exact .inl k
      · exact .inr (.inl ⟨g, List.mem_cons_of_mem _ k1, k2⟩)
      · exact .inr (.inr k)
theorem delH_mem {h : Hp} {b : Nat} : ∀ {l : BL}, Hp.get (delH l h) b = .no ∨ (Hp.get (delH l h) b = Hp.get h b ∧ ∀ g, (b, g) ∉ l)
  | [] => .inr ⟨rfl, fun g => by simp⟩
  | (b0, g0) :: l => by
    show Hp.get (Hp.put (delH l h) b0 .no) b = .no ∨ (Hp.get (Hp.put (delH l h) b0 .no) b = Hp.get h b ∧ ∀ g, (b, g) ∉ (b0, g0) :: l)
    rcases Hp.get_put (delH l h) b0 .no b with e | ⟨_, e⟩ | ⟨hn, e⟩
    · exact .inl e
    · exact .inl e
    · rw [e]
      rcases delH_mem (h := h) (b := b) (l := l) with k | ⟨k1, k2⟩
      · exact .inl k
      · refine .inr ⟨k1, fun g hm => ?_⟩
        rcases List.mem_cons.1 hm with e' | hm
        · injection e' with e1 e2
          exact hn e1
        · exact k2 g hm
theorem inH_mem {h : Hp} {b : Nat} {g : GB} : ∀ {l : BL}, inH h l = true → (b, g) ∈ l → Hp.get h b = g
  | [], _, hm => by cases hm
  | (b0, g0) :: l, hl, hm => by
    have hl : ifB (eqGB (Hp.get h b0) g0) (inH h l) false = true := hl
    rcases he : eqGB (Hp.get h b0) g0 with _ | _
    · rw [he] at hl; cases hl
    rw [he] at hl
    rcases List.mem_cons.1 hm with e | hm
    · injection e with e1 e2
      rw [e1, e2]
      exact eqGB_eq he
    · exact inH_mem hl hm
theorem stE_mem {n b : Nat} {lu lc : BL} : Hp.get (stE n lu lc).h b = .no ∨ (∃ g, (b, g) ∈ lc ∧ Hp.get (stE n lu lc).h b = g) ∨ (∃ g, (b, g) ∈ lu ∧ Hp.get (stE n lu lc).h b = g) := by
  show Hp.get (putH lc (putH lu Hp.non)) b = .no ∨ (∃ g, (b, g) ∈ lc ∧ Hp.get (putH lc (putH lu Hp.non)) b = g) ∨ (∃ g, (b, g) ∈ lu ∧ Hp.get (putH lc (putH lu Hp.non)) b = g)
  rcases putH_mem (h := putH lu Hp.non) (b := b) (l := lc) with k | k | k
  · exact .inl k
  · exact .inr (.inl k)
  · rw [k]
    rcases putH_mem (h := Hp.non) (b := b) (l := lu) with q | q | q
    · exact .inl q
    · exact .inr (.inr q)
    · exact .inl (q.trans (Hp.get_non b))
theorem stE_sub {h : Hp} {n : Nat} {lu lc : BL} (h1 : inH h lu = true) (h2 : inH h lc = true) (b : Nat) : Hp.get (stE n lu lc).h b = .no ∨ Hp.get (stE n lu lc).h b = Hp.get h b := by
  rcases stE_mem (n := n) (b := b) (lu := lu) (lc := lc) with k | ⟨g, k1, k2⟩ | ⟨g, k1, k2⟩
  · exact .inl k
  · exact .inr (k2.trans (inH_mem h2 k1).symm)
  · exact .inr (k2.trans (inH_mem h1 k1).symm)
theorem CallsF.mono {P : Program} {g : FuncId} {args : Array Value} {w : World} {R R' : Value → World → Prop} (h : CallsF P g args w R) (k : ∀ x w', R x w' → R' x w') : CallsF P g args w R' := by
  rcases h with ⟨h1, h2⟩ | ⟨x, w', h1, h2⟩
  · exact .inl ⟨h1, h2.mono fun e w' ⟨v, e1, e2⟩ => ⟨v, e1, k _ _ e2⟩⟩
  · exact .inr ⟨x, w', h1, k _ _ h2⟩
/-- What an entry claims. -/
def EntOk (g : Nat) : Ent → Prop
  | .mk ar n lu lc v n' l' => ∀ (E : Env) (B0 : Nat), E.ng = 18 → ∀ (r : Rho) (w : World) (args : Array Value), Base E r → Sim B0 r (stE n lu lc) w → RelL r ar args.toList →
    CallsF Tryz.prog g args w fun x w' => ∃ r' s', Rel r' v x ∧ Sim B0 r' s' w' ∧ Stp r (stE n lu lc) w r' s' w' ∧ s'.n = n' ∧ inH s'.h lu = true ∧ inH s'.h l' = true
  | .lo ar n lu lc v l' => (34 ≤ n ∧ belA n ar = true ∧ belL n lu = true ∧ belL n lc = true ∧ belA n v = true ∧ belL n l' = true) ∧ ∀ (E : Env) (B0 : Nat), E.ng = 18 → ∀ (r : Rho) (w : World) (args : Array Value), Base E r → Sim B0 r (stE n lu lc) w → RelL r ar args.toList →
    CallsF Tryz.prog g args w fun x w' => ∃ r' s', Rel r' v x ∧ Sim B0 r' s' w' ∧ Stp r (stE n lu lc) w r' s' w' ∧ inH s'.h lu = true ∧ inH s'.h l' = true
/-- A block's content, known of places below n alone. -/
theorem OkB.cutTo {B0 n m b : Nat} {r : Rho} {w : World} {g : GB} (h : OkB B0 r w b g) (hb : b < n) (hg : belG n g = true) : OkB B0 (r.cut n m) w b g := by
  cases g with
  | no => trivial
  | ro c =>
    obtain ⟨⟨a1, cs, ty, f, a2, a3, a4, a5⟩, a6⟩ := h
    exact ⟨⟨⟨a1, hb⟩, cs, ty, f, a2, a3, fun q hq => by
      obtain ⟨x, x1, x2⟩ := a4 q hq
      exact ⟨x, x1, (rel_cut _).1 _ (belC_get hg q) x2⟩, a5⟩, a6⟩
  | rw c =>
    obtain ⟨⟨a1, cs, ty, f, a2, a3, a4, a5⟩, a6⟩ := h
    exact ⟨⟨⟨a1, hb⟩, cs, ty, f, a2, a3, fun q hq => by
      obtain ⟨x, x1, x2⟩ := a4 q hq
      exact ⟨x, x1, (rel_cut _).1 _ (belC_get hg q) x2⟩, a5⟩, a6⟩
  | mp l =>
    obtain ⟨a1, a2, es, cl, a3, a4, a5⟩ := h
    exact ⟨⟨a1, hb⟩, a2, es, cl, a3, (rel_cut _).2 _ hg a4, a5⟩
  | lp _ => cases hg
/-- A call that is known from a state of few blocks, none of which it makes for others, is known from a state of more. -/
theorem lo_step {E : Env} {B0 g n : Nat} {ar v : AV} {lu lc l' : BL} (hE : E.ng = 18) (he : EntOk g (.lo ar n lu lc v l')) {r : Rho} {u : St} {w : World} {args : Array Value} (hb : Base E r) (hs : Sim B0 r u w) (hn : n ≤ u.n) (h3 : inH u.h lu = true) (h4 : inH u.h lc = true) (hr : RelL r ar args.toList) :
    CallsF Tryz.prog g args w fun x w' => ∃ r', Rel r' v x ∧ Sim B0 r' (.mk (putH l' (delH lc u.h)) u.n) w' ∧ Stp r u w r' (.mk (putH l' (delH lc u.h)) u.n) w' := by
  obtain ⟨⟨q1, q2, q3, q4, q5, q6⟩, he⟩ := he
  have hsub := stE_sub (n := n) h3 h4
  have hbel : ∀ b, Hp.get (stE n lu lc).h b ≠ .no → b < n ∧ belG n (Hp.get (stE n lu lc).h b) = true := fun b hno => by
    rcases stE_mem (n := n) (b := b) (lu := lu) (lc := lc) with t | ⟨g', t1, t2⟩ | ⟨g', t1, t2⟩
    · exact absurd t hno
    · rw [t2]; exact belL_mem q4 t1
    · rw [t2]; exact belL_mem q3 t1
  have hlive : ∀ b, (Hp.get (stE n lu lc).h b).live → (Hp.get u.h b).live := fun b hl => by
    rcases hsub b with t | t
    · rw [t] at hl; exact hl.elim
    · rw [← t]; exact hl
  have hs0 : Sim B0 (r.cut n n) (stE n lu lc) w := by
    refine ⟨rfl, fun b hb => hb.2, hs.low, fun b => ?_, fun b b' h1 h2 e => hs.inj b b' (hlive b h1) (hlive b' h2) e, hs.ety⟩
    by_cases hno : Hp.get (stE n lu lc).h b = .no
    · rw [hno]; trivial
    · obtain ⟨k1, k2⟩ := hbel b hno
      refine OkB.cutTo ?_ k1 k2
      rcases hsub b with t | t
      · exact absurd t hno
      · rw [t]; exact hs.ok b
  have hb0 : Base ⟨18, none, E.opq⟩ (r.cut n n) := ⟨fun g hg => by
    obtain ⟨k1, k2, k3⟩ := hb.glob g (by rw [hE]; exact hg)
    exact ⟨⟨k1, Nat.lt_of_lt_of_le (show g < 18 from hg) (Nat.le_trans (by decide) q1)⟩, k2, k3⟩, fun r1 e => (by cases e), fun g hg => ⟨hb.few g hg, Nat.lt_of_lt_of_le hg q1⟩, hb.inj, hb.opq⟩
  refine (he _ _ rfl _ _ args hb0 hs0 ((rel_cut _).2 _ q2 hr)).mono fun x w' ⟨r', s', k1, k2, k3, k5, k6⟩ => ?_
  have hnr : n ≤ r.n := by rw [← hs.n]; exact hn
  have hback : ∀ b, r'.has b → b < n → r.has b := fun b h1 h2 => by
    rcases k3.new b h1 with h | h
    · exact h.1
    · have h : n ≤ b := h
      omega
  have hle : (r'.cut n n).Le r := ⟨hnr, fun b hb => by
    have h1 := hback b hb.1 hb.2
    obtain ⟨_, e1, e2, e3⟩ := k3.le.same b ⟨h1, hb.2⟩
    exact ⟨h1, e1.symm, e2.symm, e3.symm⟩, fun b hb => (k3.le.loop b ⟨hback b hb.1 hb.2, hb.2⟩).symm, k3.le.opq.symm⟩
  have hblk : ∀ b, r'.has b → b < n → r'.blk b = r.blk b := fun b h1 h2 => (k3.le.same b ⟨hback b h1 h2, h2⟩).2.1
  -- what is known behind it, in terms of the places ahead
  obtain ⟨H2, hH2⟩ := Hp.over (fun b => some (if b < n ∧ belG n (Hp.get s'.h b) = true then Hp.get s'.h b else .no)) 0 65536 Hp.non (by decide)
  have hget : ∀ b, Hp.get H2 b = if b < n ∧ belG n (Hp.get s'.h b) = true then Hp.get s'.h b else .no := fun b => by
    rw [hH2 b]
    by_cases hf : b < 65536
    · rw [if_pos ⟨Nat.zero_le _, by omega⟩]; rfl
    · rw [if_neg (by omega), Hp.get_non]
      have : Hp.get s'.h b = .no := by
        unfold Hp.get
        rcases hbl : Nat.blt b 65536 with _ | _
        · rfl
        · exact absurd (blt_lt hbl) hf
      rw [this]
      split <;> rfl
  have hmem2 : ∀ b, Hp.get H2 b ≠ .no → b < n ∧ belG n (Hp.get H2 b) = true ∧ Hp.get H2 b = Hp.get s'.h b := fun b hno => by
    rw [hget b] at hno ⊢
    split at hno
    · rename_i hc
      rw [if_pos hc]
      exact ⟨hc.1, hc.2, rfl⟩
    · exact absurd rfl hno
  have hhas2 : ∀ b g', b < n → belG n g' = true → Hp.get s'.h b = g' → Hp.get H2 b = g' := fun b g' z1 z2 z3 => by
    rw [hget b, z3, if_pos ⟨z1, z2⟩]
  have hsim2 : Sim B0 r (.mk H2 u.n) w' := by
    refine ⟨hs.n, hs.lt, k2.low, fun b => ?_, fun b b' h1 h2 e => ?_, k2.ety⟩
    · rw [St.h_mk]
      by_cases hno : Hp.get H2 b = .no
      · rw [hno]; trivial
      · obtain ⟨z1, z2, z3⟩ := hmem2 b hno
        refine OkB.le (OkB.cutTo (m := n) ?_ z1 z2) hle rfl
        rw [z3]
        exact k2.ok b
    · rw [St.h_mk] at h1 h2
      obtain ⟨z1, _, z3⟩ := hmem2 b (live_ne h1)
      obtain ⟨y1, _, y3⟩ := hmem2 b' (live_ne h2)
      rw [z3] at h1
      rw [y3] at h2
      have i1 := ((k2.ok b).lt (live_ne h1)).1
      have i2 := ((k2.ok b').lt (live_ne h2)).1
      exact k2.inj b b' h1 h2 (by rw [hblk b i1 z1, hblk b' i2 y1]; exact e)
  have hst2 : Stp r (stE u.n lu lc) w r (.mk H2 u.n) w' := by
    refine ⟨.refl r, k3.os, k3.tape, k3.output, k3.size, fun x hx hnl => k3.keep x hx fun b hl => hnl b hl, fun _ h => .inl h, fun b hl => ?_⟩
    rw [St.h_mk] at hl
    obtain ⟨z1, _, z3⟩ := hmem2 b (live_ne hl)
    rw [z3] at hl
    have i1 := ((k2.ok b).lt (live_ne hl)).1
    rcases k3.old b hl with ⟨a, ha, e⟩ | h
    · exact .inl ⟨a, ha, by rw [← hblk b i1 z1]; exact e⟩
    · exact .inr (by rw [← hblk b i1 z1]; exact h)
  refine ⟨r, ((rel_cut _).1 _ q5 k1).le hle, ?_⟩
  refine Sim.frame hs (s := stE u.n lu lc) hsub hsim2 hst2 (u' := .mk (putH l' (delH lc u.h)) u.n) rfl fun b => ?_
  show Hp.get (putH l' (delH lc u.h)) b = .no ∨ Hp.get (putH l' (delH lc u.h)) b = Hp.get H2 b ∨ (Hp.get (putH l' (delH lc u.h)) b = Hp.get u.h b ∧ Hp.get (stE n lu lc).h b = .no)
  rcases putH_mem (h := delH lc u.h) (b := b) (l := l') with q | ⟨g', t1, t2⟩ | q
  · exact .inl q
  · obtain ⟨z1, z2⟩ := belL_mem q6 t1
    exact .inr (.inl (t2.trans (hhas2 b g' z1 z2 (inH_mem k6 t1)).symm))
  · rw [q]
    rcases delH_mem (h := u.h) (b := b) (l := lc) with p | ⟨p1, p2⟩
    · exact .inl p
    · rcases stE_mem (n := u.n) (b := b) (lu := lu) (lc := lc) with t | ⟨g', t1, t2⟩ | ⟨g', t1, t2⟩
      · exact .inr (.inr ⟨p1, t⟩)
      · exact absurd t1 (p2 g')
      · obtain ⟨z1, z2⟩ := belL_mem q3 t1
        exact .inr (.inl (p1.trans ((inH_mem h3 t1).trans (hhas2 b g' z1 z2 (inH_mem k5 t1)).symm)))
noncomputable def lookE (es : List Ent) (f : AV → St → RC) (ar : AV) (s : St) : RC := List.rec (motive := fun _ => RC) (f ar s) (fun e _ ih => Ent.rec (motive := fun _ => RC) (fun ar0 n lu lc v n' l' =>
  ifB (Nat.beq s.n n) (ifB (sameA ar ar0) (ifB (inH s.h lu) (ifB (inH s.h lc) (.ok v (.mk (putH l' (delH lc s.h)) n')) ih) ih) ih) ih)
  (fun ar0 n lu lc v l' => ifB (Nat.ble n s.n) (ifB (sameA ar ar0) (ifB (inH s.h lu) (ifB (inH s.h lc) (.ok v (.mk (putH l' (delH lc s.h)) s.n)) ih) ih) ih) ih) e) es
section
variable {E : Env} {B0 g : Nat}
theorem look_ok (hE : E.ng = 18) {f : AV → St → RC} (hf : ∀ ar s v s', f ar s = .ok v s' → ∀ (r : Rho) (w : World) (args : Array Value), Base E r → Sim B0 r s w → RelL r ar args.toList → CallsF Tryz.prog g args w fun x w' => ∃ r', Rel r' v x ∧ Sim B0 r' s' w' ∧ Stp r s w r' s' w') :
    ∀ {es : List Ent}, (∀ e ∈ es, EntOk g e) → ∀ ar s v s', lookE es f ar s = .ok v s' → ∀ (r : Rho) (w : World) (args : Array Value), Base E r → Sim B0 r s w → RelL r ar args.toList → CallsF Tryz.prog g args w fun x w' => ∃ r', Rel r' v x ∧ Sim B0 r' s' w' ∧ Stp r s w r' s' w'
  | [], _, ar, s, v, s', h => hf ar s v s' h
  | .mk ar0 n lu lc v0 n' l' :: es, hes, ar, s, v, s', h => by
    have ih := look_ok hE hf (es := es) (fun e he => hes e (List.mem_cons_of_mem _ he)) ar s v s'
    have h : ifB (Nat.beq s.n n) (ifB (sameA ar ar0) (ifB (inH s.h lu) (ifB (inH s.h lc) (.ok v0 (.mk (putH l' (delH lc s.h)) n')) (lookE es f ar s)) (lookE es f ar s)) (lookE es f ar s)) (lookE es f ar s) = .ok v s' := h
    rcases h1 : Nat.beq s.n n with _ | _
    · rw [h1] at h; exact ih h
    rcases h2 : sameA ar ar0 with _ | _
    · rw [h1, h2] at h; exact ih h
    rcases h3 : inH s.h lu with _ | _
    · rw [h1, h2, h3] at h; exact ih h
    rcases h4 : inH s.h lc with _ | _
    · rw [h1, h2, h3, h4] at h; exact ih h
    rw [h1, h2, h3, h4] at h
    injection h with e1 e2
    subst e1 e2
    obtain rfl := Nat.eq_of_beq_eq_true h1
    obtain rfl := sameA_eq h2
    intro r w args hb hs hr
    have hsub := stE_sub (n := s.n) h3 h4
    have hk := hes _ (List.mem_cons_self ..) E B0 hE r w args hb (hs.sub rfl hsub) hr
    refine hk.mono fun x w' ⟨r', s1, k1, k2, k3, k4, k5, k6⟩ => ⟨r', k1, ?_⟩
    refine Sim.frame hs hsub k2 k3 (u' := .mk (putH l' (delH lc s.h)) n') k4.symm fun b => ?_
    rw [St.h_mk]
    rcases putH_mem (h := delH lc s.h) (b := b) (l := l') with q | ⟨g', q1, q2⟩ | q
    · exact .inl q
    · exact .inr (.inl (q2.trans (inH_mem k6 q1).symm))
    · rw [q]
      rcases delH_mem (h := s.h) (b := b) (l := lc) with p | ⟨p1, p2⟩
      · exact .inl p
      · rcases stE_mem (n := s.n) (b := b) (lu := lu) (lc := lc) with t | ⟨g', t1, t2⟩ | ⟨g', t1, t2⟩
        · exact .inr (.inr ⟨p1, t⟩)
        · exact absurd t1 (p2 g')
        · exact .inr (.inl (p1.trans ((inH_mem h3 t1).trans (inH_mem k5 t1).symm)))
  | .lo ar0 n lu lc v0 l' :: es, hes, ar, s, v, s', h => by
    have ih := look_ok hE hf (es := es) (fun e he => hes e (List.mem_cons_of_mem _ he)) ar s v s'
    have h : ifB (Nat.ble n s.n) (ifB (sameA ar ar0) (ifB (inH s.h lu) (ifB (inH s.h lc) (.ok v0 (.mk (putH l' (delH lc s.h)) s.n)) (lookE es f ar s)) (lookE es f ar s)) (lookE es f ar s)) (lookE es f ar s) = .ok v s' := h
    rcases h1 : Nat.ble n s.n with _ | _
    · rw [h1] at h; exact ih h
    rcases h2 : sameA ar ar0 with _ | _
    · rw [h1, h2] at h; exact ih h
    rcases h3 : inH s.h lu with _ | _
    · rw [h1, h2, h3] at h; exact ih h
    rcases h4 : inH s.h lc with _ | _
    · rw [h1, h2, h3, h4] at h; exact ih h
    rw [h1, h2, h3, h4] at h
    injection h with e1 e2
    subst e1 e2
    obtain rfl := sameA_eq h2
    intro r w args hb hs hr
    exact lo_step hE (hes _ (List.mem_cons_self ..)) hb hs (Nat.le_of_ble_eq_true h1) h3 h4 hr
theorem fnOk_look (hE : E.ng = 18) {fn : Fn} (hf : FnOk Tryz.prog E B0 g fn) {es : List Ent} (hes : ∀ e ∈ es, EntOk g e) : FnOk Tryz.prog E B0 g (.pr fun c ar s => lookE es (fun ar s => runFn fn c ar s) ar s) :=
  fun ih hih ar s v s' h => look_ok hE (f := fun ar s => runFn fn ih ar s) (fun ar s v s' h => hf ih hih ar s v s' h) hes ar s v s' h
end
/-- Short words for numbers and lists. -/
noncomputable def n64 (n : Nat) : AV := .i .i64 (.ofNat n)
noncomputable def n32 (n : Nat) : AV := .i .u32 (.ofNat n)
noncomputable def n8 (n : Nat) : AV := .i .u8 (.ofNat n)
noncomputable def m64 (n : Nat) : AV := .i .u64 (.ofNat n)
noncomputable def L (l : List AV) : AV := List.rec (motive := fun _ => AV) .nil (fun a _ ih => .cons a ih) l
/-- The start's blocks. -/
noncomputable def st0P : List (Nat × AV) := [(1, .ifc 465 (.p 18 0)), (18, .str [97, 114, 103, 117, 109, 101, 110, 116]), (3, .ifc 465 (.p 19 0)), (19, .str [115, 104, 111, 114, 116]), (5, .ifc 465 (.p 20 0)), (20, .str [98, 121, 116, 101, 115]), (7, .ifc 465 (.p 21 0)), (21, .str [98, 105, 103]), (4, .ifc 465 (.p 22 0)), (22, .str [111, 98, 106, 101, 99, 116]), (6, .ifc 465 (.p 23 0)), (23, .str [109, 101, 116, 104, 111, 100]), (8, .ifc 465 (.p 24 0)), (24, .str [102, 111, 114, 109, 97, 116]), (9, .ifc 465 (.p 25 0)), (25, .str [115, 116, 114, 105, 100, 101]), (10, .ifc 465 (.p 26 0)), (26, .str [102, 105, 108, 101]), (11, .ifc 465 (.p 27 0)), (27, .str [114, 111, 108, 101]), (12, .ifc 465 (.p 28 0)), (28, .str [112, 108, 97, 99, 101]), (13, .ifc 465 (.p 29 0)), (29, .str [115, 116, 97, 116, 101]), (14, .ifc 465 (.p 30 0)), (30, .str [115, 101, 114, 105, 97, 108]), (2, .ifc 465 (.p 31 0)), (31, .str [102, 117, 108, 108]), (0, .ifc 465 (.p 32 0)), (32, .str [103, 111, 110, 101]), (16, .ifc 465 (.p 33 0)), (33, .str [115, 104, 101, 101, 116])]
noncomputable def roB (p : Nat × AV) : Nat × GB := (p.1, .ro (Cs.put Cs.non 0 p.2))
noncomputable def st0L : BL := st0P.map roB
theorem st0P_ok : (st0P.all fun p => Nat.blt p.1 34 && belA 34 p.2) = true := by kernel_rfl
theorem st0L_mem {b : Nat} {g : GB} (h : (b, g) ∈ st0L) : b < 34 ∧ ∃ v, belA 34 v = true ∧ g = .ro (Cs.put Cs.non 0 v) := by
  obtain ⟨p, h1, h2⟩ := List.mem_map.1 h
  have := List.all_eq_true.1 st0P_ok p h1
  rw [Bool.and_eq_true] at this
  injection h2 with e1 e2
  exact ⟨by rw [← e1]; exact blt_lt this.1, p.2, this.2, e2.symm⟩
theorem st0_has : inH st0.h st0L = true := by kernel_rfl
theorem simL {w : World} {B : Nat} {A : Nat → Addr} {o : Nat → Value} (h : Sim B (rho0 w A o) st0 w) : Sim B (rho0 w A o) (stE 34 st0L []) w := by
  have e1 : (stE 34 st0L []).n = st0.n := Eq.trans (show (stE 34 st0L []).n = 34 from rfl) (show 34 = st0.n from rfl)
  exact Sim.sub h e1 fun b => stE_sub (h := st0.h) (n := 34) (lu := st0L) (lc := []) st0_has rfl b
/-- A call without arguments that answers a value of no place stands for itself in whatever state. -/
noncomputable def cloF (v : AV) : CallE → AV → St → RC := fun _ ar s => AV.isNil ar .bad (ifB (inH s.h st0L) (.ok v s) .bad)
theorem fnOk_clo {E : Env} {B0 g n' : Nat} {v : AV} (hE : E.ng = 18) (h : EntOk g (.mk .nil 34 st0L [] v n' [])) (hv : belA 0 v = true) : FnOk Tryz.prog E B0 g (.pr (cloF v)) := fun ih _ ar s v1 s1 hrun r w args hb hs hr => by
  replace hrun : AV.isNil ar RC.bad (ifB (inH s.h st0L) (RC.ok v s) RC.bad) = RC.ok v1 s1 := hrun
  cases ar
  case nil =>
    replace hrun : ifB (inH s.h st0L) (RC.ok v s) RC.bad = RC.ok v1 s1 := hrun
    rcases h3 : inH s.h st0L with _ | _
    · rw [h3] at hrun; cases hrun
    rw [h3] at hrun
    injection hrun with e1 e2
    subst e1 e2
    have hlow := hs.low
    have hs0 : Sim w.heap.size (r.cut 34 34) (stE 34 st0L []) w := by
      refine ⟨rfl, fun b hb => hb.2, Nat.le_refl _, fun b => ?_, fun b b' hl _ _ => ?_, ⟨by have := hs.ety.1; omega, hs.ety.2⟩⟩
      · rcases stE_mem (n := 34) (b := b) (lu := st0L) (lc := []) with t | ⟨g', t1, t2⟩ | ⟨g', t1, t2⟩
        · rw [t]; trivial
        · cases t1
        · rw [t2]
          obtain ⟨q1, y, q2, rfl⟩ := st0L_mem t1
          have := hs.ok b
          rw [inH_mem h3 t1] at this
          obtain ⟨⟨a1, cs, ty, f, a2, a3, a4, a5⟩, a6, a7⟩ := this
          refine ⟨⟨⟨a1, q1⟩, cs, ty, f, a2, a3, fun q hq => ?_, a5⟩, by show r.blk b < _; omega, a7⟩
          obtain ⟨x, x1, x2⟩ := a4 q hq
          refine ⟨x, x1, (rel_cut _).1 _ ?_ x2⟩
          rcases Cs.get_put Cs.non 0 y q with e | ⟨_, e⟩ | ⟨_, e⟩
          · rw [e]; rfl
          · rw [e]; exact q2
          · rw [e, Cs.get_non]; rfl
      · rcases stE_mem (n := 34) (b := b) (lu := st0L) (lc := []) with t | ⟨g', t1, t2⟩ | ⟨g', t1, t2⟩
        · rw [t] at hl; exact hl.elim
        · cases t1
        · rw [t2] at hl
          obtain ⟨_, y, _, rfl⟩ := st0L_mem t1
          exact hl.elim
    have hb0 : Base ⟨18, none, E.opq⟩ (r.cut 34 34) := ⟨fun g hg => by
      obtain ⟨k1, k2, k3⟩ := hb.glob g (by rw [hE]; exact hg)
      exact ⟨⟨k1, Nat.lt_of_lt_of_le (show g < 18 from hg) (by decide)⟩, k2, k3⟩, fun r1 e => (by cases e), fun g hg => ⟨hb.few g hg, hg⟩, hb.inj, hb.opq⟩
    refine (h _ _ rfl _ _ args hb0 hs0 hr).mono fun x w' ⟨r', s', k1, k2, k3, _⟩ => ?_
    obtain ⟨m1, m2⟩ := hs.more (Stp.below hs0 k3)
    exact ⟨r, ((rel_cut (n := 0) (m := 0) _).1 _ hv k1).le ⟨Nat.zero_le _, fun b hb => absurd hb.2 (by omega), fun b hb => absurd hb.2 (by omega), k3.le.opq.symm⟩, m1, m2⟩
  all_goals cases hrun
/-- A row that is laid over the table's: entries; a closed call; another rule. -/
inductive Rw where | es (l : List Ent) | clo (v : AV) | one (f : Fn)
noncomputable def rwF (g : Nat) (r : Rw) : Fn := Rw.rec (motive := fun _ => Fn) (fun es => .pr fun c ar s => lookE es (fun ar s => runFn (tabF g) c ar s) ar s) (fun v => .pr (cloF v)) (fun f => f) r
noncomputable def findW (g : Nat) (rows : List (Nat × Rw)) : Fn := List.rec (motive := fun _ => Fn) (tabF g) (fun p _ ih => Prod.rec (motive := fun _ => Fn) (fun g' r => ifB (Nat.beq g g') (rwF g r) ih) p) rows
noncomputable def tabW (rows : List (Nat × Rw)) (g : Nat) : Fn := ifB (Nat.blt g 512) (findW g rows) .no
def RwOk (E : Env) (B0 g : Nat) : Rw → Prop
  | .es l => ∀ e ∈ l, EntOk g e
  | .clo v => belA 0 v = true ∧ ∃ n', EntOk g (.mk .nil 34 st0L [] v n' [])
  | .one f => FnOk Tryz.prog E B0 g f
def RowsOk (E : Env) (B0 : Nat) (rows : List (Nat × Rw)) : Prop := ∀ p ∈ rows, RwOk E B0 p.1 p.2
section
variable {E : Env} {B0 : Nat} {rows : List (Nat × Rw)}
theorem findW_ok (hE : E.ng = 18) (g : Nat) : ∀ {rows : List (Nat × Rw)}, RowsOk E B0 rows → FnOk Tryz.prog E B0 g (findW g rows)
  | [], _ => tab_ok hE g
  | (g', r) :: rows, h => by
    have e : findW g ((g', r) :: rows) = ifB (Nat.beq g g') (rwF g r) (findW g rows) := rfl
    rw [e]
    rcases hg : Nat.beq g g' with _ | _
    · exact findW_ok hE g fun p hp => h p (List.mem_cons_of_mem _ hp)
    · obtain rfl := Nat.eq_of_beq_eq_true hg
      have h0 := h _ (List.mem_cons_self ..)
      rw [ifB_true]
      cases r with
      | es l => exact fnOk_look hE (tab_ok hE g) h0
      | clo v => obtain ⟨h1, n', h2⟩ := h0; exact fnOk_clo hE h2 h1
      | one f => exact h0
theorem evalW_ok (hE : E.ng = 18) (h : RowsOk E B0 rows) (n : Nat) : CAll Tryz.prog E B0 (evF (tabW rows) n) := evF_ok (fun g => by
  unfold tabW
  rcases hg : Nat.blt g 512 with _ | _
  · exact fnOk_no
  · exact findW_ok hE g h) (by unfold tabW; rfl) n
noncomputable def entB (r : RC) (lu : BL) (v : AV) (n' : Nat) (l' : BL) : Bool := RC.rec (motive := fun _ => Bool) false (fun v' s' => ifB (sameA v' v) (ifB (Nat.beq s'.n n') (ifB (inH s'.h lu) (inH s'.h l') false) false) false) r
theorem entry_of {k g n n' : Nat} {ar v : AV} {lu lc l' : BL} (hrows : ∀ (E : Env) (B0 : Nat), E.ng = 18 → RowsOk E B0 rows) (hg : g < yN) (h : entB (evF (tabW rows) k g ar (stE n lu lc)) lu v n' l' = true) : EntOk g (.mk ar n lu lc v n' l') := fun E B0 hE r w args hb hs hr => by
  cases he : evF (tabW rows) k g ar (stE n lu lc) with
  | bad => rw [he] at h; cases h
  | ok v' s' =>
    rw [he] at h
    have h9 : ifB (sameA v' v) (ifB (Nat.beq s'.n n') (ifB (inH s'.h lu) (inH s'.h l') false) false) false = true := h
    clear h
    rcases h1 : sameA v' v with _ | _
    · rw [h1] at h9; cases h9
    rcases h2 : Nat.beq s'.n n' with _ | _
    · rw [h1, h2] at h9; cases h9
    rcases h3 : inH s'.h lu with _ | _
    · rw [h1, h2, h3] at h9; cases h9
    rw [h1, h2, h3] at h9
    obtain rfl := sameA_eq h1
    obtain rfl := Nat.eq_of_beq_eq_true h2
    exact ((evalW_ok hE (hrows E B0 hE) k).1 g ar _ v' s' hg he r w args hb hs hr).mono fun x w' ⟨r', k1, k2, k3⟩ => ⟨r', s', k1, k2, k3, rfl, h3, h9⟩
noncomputable def enlB (n : Nat) (ar : AV) (r : RC) (lu lc : BL) (v : AV) (l' : BL) : Bool := ifB (Nat.ble 34 n) (ifB (belA n ar) (ifB (belL n lu) (ifB (belL n lc) (ifB (belA n v) (ifB (belL n l') (RC.rec (motive := fun _ => Bool) false (fun v' s' => ifB (sameA v' v) (ifB (inH s'.h lu) (inH s'.h l') false) false) r) false) false) false) false) false) false
theorem ifB_and {a b : Bool} (h : ifB a b false = true) : a = true ∧ b = true := by cases a <;> cases b <;> first | exact ⟨rfl, rfl⟩ | cases h
theorem entry_lo {k g n : Nat} {ar v : AV} {lu lc l' : BL} (hrows : ∀ (E : Env) (B0 : Nat), E.ng = 18 → RowsOk E B0 rows) (hg : g < yN) (h : enlB n ar (evF (tabW rows) k g ar (stE n lu lc)) lu lc v l' = true) : EntOk g (.lo ar n lu lc v l') := by
  obtain ⟨q1, h⟩ := ifB_and h
  obtain ⟨q2, h⟩ := ifB_and h
  obtain ⟨q3, h⟩ := ifB_and h
  obtain ⟨q4, h⟩ := ifB_and h
  obtain ⟨q5, h⟩ := ifB_and h
  obtain ⟨q6, h⟩ := ifB_and h
  refine ⟨⟨Nat.le_of_ble_eq_true q1, q2, q3, q4, q5, q6⟩, fun E B0 hE r w args hb hs hr => ?_⟩
  cases he : evF (tabW rows) k g ar (stE n lu lc) with
  | bad => rw [he] at h; cases h
  | ok v' s' =>
    rw [he] at h
    obtain ⟨h1, h8⟩ := ifB_and (show ifB (sameA v' v) (ifB (inH s'.h lu) (inH s'.h l') false) false = true from h)
    clear h
    obtain ⟨h3, h9⟩ := ifB_and h8
    obtain rfl := sameA_eq h1
    exact ((evalW_ok hE (hrows E B0 hE) k).1 g ar _ v' s' hg he r w args hb hs hr).mono fun x w' ⟨r', k1, k2, k3⟩ => ⟨r', s', k1, k2, k3, h3, h9⟩
theorem ents_nil {g : Nat} : ∀ e ∈ ([] : List Ent), EntOk g e := fun e h => by cases h
theorem ents_cons {g : Nat} {e : Ent} {es : List Ent} (h : EntOk g e) (k : ∀ e ∈ es, EntOk g e) : ∀ e' ∈ e :: es, EntOk g e' := fun e' hm => by
  rcases List.mem_cons.1 hm with rfl | hm
  · exact h
  · exact k e' hm
theorem rows_nil : RowsOk E B0 [] := fun p h => by cases h
theorem rows_cons {g : Nat} {x : Rw} {rows : List (Nat × Rw)} (h : RwOk E B0 g x) (k : RowsOk E B0 rows) : RowsOk E B0 ((g, x) :: rows) := fun p hm => by
  rcases List.mem_cons.1 hm with rfl | hm
  · exact h
  · exact k p hm
noncomputable def okB (r : RC) (v : AV) : Bool := RC.rec (motive := fun _ => Bool) false (fun v' _ => sameA v' v) r
/-- A run of a law from the start. -/
theorem law_run {w : World} {A : Nat → Addr} {o : Nat → Value} (hE : Errs w w.heap.size allE A) (hy : ETy0 w.heap.size w) (hG : ∀ k ∈ allE, ∃ c t, w.heap[gno k]? = some (.cells c t (0, 0))) (hrows : RowsOk (env0 o) w.heap.size rows) {k g : Nat} (hg : g < yN) {ar : AV} (h : okB (evF (tabW rows) k g ar (stE 34 st0L [])) (.b true) = true) {args : Array Value} (hr : RelL (rho0 w A o) ar args.toList) :
    CallsF Tryz.prog g args w fun x w' => x = .bool true ∧ Below w.heap.size w w' := by
  have hs := simL (sim0 (o := o) hE (Nat.le_refl _) hy hG)
  cases he : evF (tabW rows) k g ar (stE 34 st0L []) with
  | bad => rw [he] at h; cases h
  | ok v' s' =>
    rw [he] at h
    obtain rfl := sameA_eq (show sameA v' (.b true) = true from h)
    exact ((evalW_ok rfl hrows k).1 g ar _ _ s' hg he (rho0 w A o) w args (base0 hE) hs hr).mono fun x w' ⟨r', k1, k2, k3⟩ => ⟨k1, Stp.below hs k3⟩
end
end Go.Proofs.YtenpbpgoglepfaaGreatDoor
namespace Go.Proofs.YtenpbpgoglepfaaGreatDoor
open Go.RowKit

/-- Place: any number as one from 0 to n - 1. -/
theorem place_any (v n : Int) (w : World) (hn : 0 < n) (hn' : n ≤ 4611686018427387904) :
    Calls Tryz.prog 8 #[.int .i64 v, .int .i64 n] w fun e w' => e = .returned (.int .i64 (v % n)) ∧ w = w' := by
  have h0 : (n == 0) = false := by simp; omega
  obtain ⟨h1, h2, h3⟩ := place_num v n hn
  by_cases c : v.tmod n < 0
  · rw [if_pos c] at h1
    have H := Lib.hid h1
    clear h1
    go_enter Tryz.func8, Tryz.ntmps8
    go_wp2
    go_ret
    exact ⟨by rw [H.out]; rfl, rfl⟩
  · rw [if_neg c] at h1
    have H := Lib.hid h1
    clear h1
    go_enter Tryz.func8, Tryz.ntmps8
    go_wp2
    go_ret
    exact ⟨by rw [H.out]; rfl, rfl⟩

end Go.Proofs.YtenpbpgoglepfaaGreatDoor
namespace Go.Proofs.YtenpbpgoglepfaaGreatDoor
open Go.RowKit
set_option linter.unusedVariables false
/-- The values of which nothing is known, by their numbers. -/
def markA : Nat → AV
  | 0 => .nil
  | k + 1 => .cons .nil (markA k)
theorem num_mark : ∀ k, AV.num (markA k) = k
  | 0 => rfl
  | k + 1 => by show AV.num (markA k) + 1 = k + 1; rw [num_mark k]
theorem rel_mark {r : Rho} {v : Value} : ∀ k, Rel r (markA k) v ↔ v = r.opq k
  | 0 => by simp only [markA, Rel]
  | k + 1 => by simp only [markA, Rel, num_mark]
noncomputable def plFind (l : List (Nat × Nat × Nat)) (x y : AV) (s : St) : RC := List.rec (motive := fun _ => RC) .bad (fun e _ ih => Prod.rec (motive := fun _ => RC) (fun k p => Prod.rec (motive := fun _ => RC) (fun m q => ifB (sameA x (markA k)) (ifB (sameA y (n64 m)) (.ok (n64 q) s) ih) ih) p) e) l
noncomputable def prPl (l : List (Nat × Nat × Nat)) : CallE → AV → St → RC := fun _ ar s => AV.onC ar .bad fun x t => AV.onC t .bad fun y z => AV.isNil z .bad (plFind l x y s)
def PlOk (o : Nat → Value) (e : Nat × Nat × Nat) : Prop := ∃ n : Int, o e.1 = .int .i64 n ∧ n % (e.2.1 : Int) = (e.2.2 : Int) ∧ 0 < e.2.1 ∧ e.2.1 ≤ 4611686018427387904
theorem plFind_ok {o : Nat → Value} {x y v : AV} {s s' : St} : ∀ {l : List (Nat × Nat × Nat)}, (∀ e ∈ l, PlOk o e) → plFind l x y s = .ok v s' → ∃ k m q, PlOk o (k, m, q) ∧ x = markA k ∧ y = n64 m ∧ v = n64 q ∧ s' = s
  | [], _, h => by cases h
  | (k, m, q) :: l, hl, h => by
    have ih := plFind_ok (l := l) (x := x) (y := y) (v := v) (s := s) (s' := s') fun e he => hl e (List.mem_cons_of_mem _ he)
    have h : ifB (sameA x (markA k)) (ifB (sameA y (n64 m)) (RC.ok (n64 q) s) (plFind l x y s)) (plFind l x y s) = .ok v s' := h
    rcases h1 : sameA x (markA k) with _ | _
    · rw [h1] at h; exact ih h
    rcases h2 : sameA y (n64 m) with _ | _
    · rw [h1, h2] at h; exact ih h
    rw [h1, h2] at h
    injection h with e1 e2
    exact ⟨k, m, q, hl _ (List.mem_cons_self ..), sameA_eq h1, sameA_eq h2, e1.symm, e2.symm⟩
theorem prPl_ok {E : Env} {B0 : Nat} {l : List (Nat × Nat × Nat)} (hl : ∀ e ∈ l, PlOk E.opq e) : FnOk Tryz.prog E B0 8 (.pr (prPl l)) := fun ih _ ar s v s' hrun r w args hb hs hr => by
  have hent : ∀ args w, (callFunc 8 args).run Tryz.prog w = .ok (.enter 8 args) w := ent_of Tryz.func8 (by kernel_rfl) rfl
  replace hrun : AV.onC ar RC.bad (fun x t => AV.onC t RC.bad fun y z => AV.isNil z RC.bad (plFind l x y s)) = .ok v s' := hrun
  cases ar
  case cons x t =>
    replace hrun : AV.onC t RC.bad (fun y z => AV.isNil z RC.bad (plFind l x y s)) = .ok v s' := hrun
    cases t
    case cons y z =>
      cases z
      case nil =>
        replace hrun : plFind l x y s = .ok v s' := hrun
        obtain ⟨k, m, q, ⟨n, h1, h2, h3, h4⟩, rfl, rfl, rfl, rfl⟩ := plFind_ok hl hrun
        obtain ⟨a, c, rfl, k1, k2⟩ := args_two hr
        rw [rel_mark, hb.opq] at k1
        have k1 : a = .int .i64 n := k1.trans h1
        have k2 : c = .int .i64 (m : Int) := k2
        subst k1 k2
        refine .inl ⟨hent _ _, (place_any n m w (by have : 0 < m := h3; omega) (by have : m ≤ 4611686018427387904 := h4; omega)).mono fun e w' ⟨he, hw⟩ => ⟨_, he, r, ?_, hw ▸ hs, hw ▸ .refl r s' w⟩⟩
        show Value.int .i64 (n % (m : Int)) = .int .i64 (.ofNat q)
        rw [show n % (m : Int) = (q : Int) from h2]
        rfl
      all_goals cases hrun
    all_goals cases hrun
  all_goals cases hrun
theorem pl_nil {o : Nat → Value} : ∀ e ∈ ([] : List (Nat × Nat × Nat)), PlOk o e := fun e h => by cases h
theorem pl_cons {o : Nat → Value} {e : Nat × Nat × Nat} {l : List (Nat × Nat × Nat)} (h : PlOk o e) (k : ∀ e ∈ l, PlOk o e) : ∀ e' ∈ e :: l, PlOk o e' := fun e' hm => by
  rcases List.mem_cons.1 hm with rfl | hm
  · exact h
  · exact k e' hm
theorem callsF_calls {P : Program} {g : FuncId} {args : Array Value} {w : World} (h : CallsF P g args w fun x w' => x = .bool true ∧ Below w.heap.size w w') (hent : (callFunc g args).run P w = .ok (.enter g args) w) : Calls P g args w fun e w' => e = .returned (.bool true) ∧ Below w.heap.size w w' := by
  rcases h with ⟨_, h⟩ | ⟨x, w', e, _⟩
  · exact h.mono fun e w' ⟨v, he, hv, hb⟩ => ⟨by rw [he, hv], hb⟩
  · rw [hent] at e; cases e
end Go.Proofs.YtenpbpgoglepfaaGreatDoor
namespace Go.Proofs.YtenpbpgoglepfaaGreatDoor
open Go.RowKit Go.ChangeShapes
set_option linter.unusedVariables false
set_option maxRecDepth 100000 in
theorem laid_glob {W : World} : ∀ (S : List Nat) (ps : List MemPlace), (∀ k ∈ S, Tryz.prog.globalNamed (gname k) = some (gno k) ∧ (Tryz.prog.globals[gno k]?).map (·.type) = some 26) → DataW.LaidVars Tryz.prog W (S.map mkLaid) ps →
    (∀ b off, MemPlace.cell b off ∈ ps → (∃ c t, W.heap[b]? = some (.cells c t (0, 0))) ∧ ∀ u v, W.cell? ⟨b, off, none⟩ = some (.iface u v) → Value.okWide Tryz.prog W .any 0 u v) →
    ∀ k ∈ S, MemPlace.cell (gno k) 0 ∈ ps
  | [], ps, _, h, _, k, hk => by cases hk
  | k0 :: S, ps, hS, h, hrows, k, hk => by
    obtain ⟨g0, t0, cs0, f0, p0, q0, hg0, ht0, hv0, hd0, hq, e0⟩ := h
    subst e0
    obtain ⟨hg, ht⟩ := hS k0 (by simp)
    obtain rfl := Option.some.inj (hg.symm.trans hg0)
    obtain rfl := Option.some.inj (ht.symm.trans ht0)
    obtain ⟨l0⟩ := cs0
    have hcell : ∀ x, l0 = [x] → W.cell? ⟨gno k0, 0, none⟩ = some x := fun x e => by subst e; simpa using World.var?_cell hg hv0 0
    have ok0 : ∀ u v, l0 = [.iface u v] → Value.okWide Tryz.prog W .any 0 u v := fun u v e => by
      have := hcell _ e
      subst e
      exact (hrows (gno k0) 0 (by simp [MemPlace.row])).2 u v this
    obtain ⟨a0, s0, e1, _, _, _, e2⟩ := errorString_of_trod Tryz.underlying26 Tryz.rowErr Tryz.underlying465 Tryz.underlying484 rfl rfl Tryz.underlying9 Tryz.cellsES Tryz.cellsSt hd0 ok0
    rcases List.mem_cons.1 hk with rfl | hk
    · have e1' : l0.toArray.size = 1 := by simp at e1; rw [e1]; rfl
      rw [e1']
      simp [MemPlace.row]
    · have := laid_glob S q0 (fun j hj => hS j (List.mem_cons_of_mem _ hj)) hq (fun b off hm => hrows b off (by simp [hm])) k hk
      simp [this]
theorem globs_of_list {W : World} (S : List Nat) (hS : ∀ k ∈ S, Tryz.prog.globalNamed (gname k) = some (gno k) ∧ (Tryz.prog.globals[gno k]?).map (·.type) = some 26) (h : laidMet Tryz.prog (S.map mkLaid) W) :
    ∀ k ∈ S, ∃ c t, W.heap[gno k]? = some (.cells c t (0, 0)) := fun k hk => by
  obtain ⟨ps, hv, hn, hrows⟩ := h
  exact (hrows _ _ (laid_glob S ps hS hv hrows k hk)).1
end Go.Proofs.YtenpbpgoglepfaaGreatDoor
namespace Go.Proofs.YtenpbpgoglepfaaGreatDoor
open Go.RowKit Go.ChangeShapes
set_option linter.unusedVariables false
theorem et_named : Tryz.prog.globalNamed "errors.errorType" = some 15 := by kernel_rfl
theorem et_rt : (Tryz.prog.cutTypes.find? (·.1 == "internal/reflectlite.rtype")).map (·.2) = some 360 := by kernel_rfl
theorem et_row : ((List.range (596 - 100)).filter fun t => Tryz.prog.rowNamed t [101, 114, 114, 111, 114]) = [26] := by kernel_rfl
theorem et_size : Tryz.prog.types.size = 596 - 100 := by kernel_rfl
theorem et_of_laid {W : World} (h : handlesMet Tryz.prog [("errors.errorType", Rows.laid_errors_errorType)] W) : ETy0 W.heap.size W := by
  obtain ⟨name, u, ty, e1, e2, e3, e4, e5⟩ := h _ (List.mem_singleton.2 rfl)
  have en : name = [101, 114, 114, 111, 114] := (Option.some.inj e1).symm
  subst en
  obtain rfl := Option.some.inj (et_rt.symm.trans e2)
  have hm : ty ∈ (List.range (596 - 100)).filter fun t => Tryz.prog.rowNamed t [101, 114, 114, 111, 114] := List.mem_filter.2 ⟨List.mem_range.2 (by rw [← et_size]; exact e3), e4⟩
  rw [et_row] at hm
  obtain rfl := List.mem_singleton.1 hm
  have hh : typeHandle Tryz.prog 26 = .pointer (some ⟨18, 26, none⟩) := by kernel_rfl
  rw [hh] at e5
  unfold World.var? at e5
  rw [et_named, Option.bind_some] at e5
  split at e5
  · rename_i cs t f hc
    cases e5
    exact ⟨(Array.getElem?_eq_some_iff.1 hc).1, t, f, hc⟩
  · cases e5
theorem gn_all : ∀ k ∈ allE, Tryz.prog.globalNamed (gname k) = some (gno k) ∧ (Tryz.prog.globals[gno k]?).map (·.type) = some 26 := fun k hk => by
  simp only [allE, List.mem_cons, List.not_mem_nil, or_false] at hk
  rcases hk with rfl | rfl | rfl | rfl | rfl | rfl | rfl | rfl | rfl | rfl | rfl | rfl | rfl | rfl | rfl | rfl
  · exact gn1
  · exact gn2
  · exact gn3
  · exact gn4
  · exact gn5
  · exact gn6
  · exact gn7
  · exact gn8
  · exact gn9
  · exact gn10
  · exact gn11
  · exact gn12
  · exact gn13
  · exact gn14
  · exact gn15
  · exact gn16
theorem top_met {W : World} (h : laidMet Tryz.prog (allE.map mkLaid) W ∧ handlesMet Tryz.prog [("errors.errorType", Rows.laid_errors_errorType)] W) : ∃ A, Errs W W.heap.size allE A ∧ ETy0 W.heap.size W ∧ ∀ k ∈ allE, ∃ c t, W.heap[gno k]? = some (.cells c t (0, 0)) := by
  obtain ⟨A, hA⟩ := errs_of_list allE gn_all h.1
  exact ⟨A, hA, et_of_laid h.2, globs_of_list allE gn_all h.1⟩
end Go.Proofs.YtenpbpgoglepfaaGreatDoor
namespace Go.Proofs.YtenpbpgoglepfaaGreatDoor
open Go.RowKit
set_option linter.unusedVariables false
set_option maxRecDepth 100000
noncomputable def ug0 : GB := (.ro (Cs.putL (L [(.ifc 465 (.p 18 0))]) 0 (Cs.mk 1)))
noncomputable def ug1 : GB := (.ro (Cs.putL (L [(.ifc 465 (.p 31 0))]) 0 (Cs.mk 1)))
noncomputable def ug2 : GB := (.ro (Cs.putL (L [(.ifc 465 (.p 19 0))]) 0 (Cs.mk 1)))
noncomputable def ug3 : GB := (.ro (Cs.putL (L [(.str [115, 104, 111, 114, 116])]) 0 (Cs.mk 1)))
noncomputable def ug4 : GB := (.rw (Cs.putL (L [(.m 39)]) 0 (Cs.mk 1)))
noncomputable def ug5 : GB := (.rw (Cs.putL (L [(.m 41)]) 0 (Cs.mk 1)))
noncomputable def ug6 : GB := (.rw (Cs.putL (L [(.p 53 0), (n64 16384), (.s 83 0 1 1 1 false)]) 0 (Cs.mk 3)))
noncomputable def ug7 : GB := (.rw (Cs.putL (L [(.m 73)]) 0 (Cs.mk 1)))
noncomputable def ug8 : GB := (.rw (Cs.putL (L [(.p 74 0), (.m 66), (.m 67), (.p 76 0), (.p 77 0), .ns]) 0 (Cs.mk 6)))
noncomputable def ug9 : GB := (.rw (Cs.putL (L [(.p 79 0), (.p 80 0), (.s 2212 0 1 200 200 false), (.b true)]) 0 (Cs.mk 4)))
noncomputable def ug10 : GB := (.rw (Cs.putL (L [(.p 81 0)]) 0 (Cs.mk 1)))
noncomputable def ug11 : GB := (.rw (.c2 (.mk (.mk (n8 3) (n8 0) (n8 0) (n8 0) (n8 0) (n8 0) (n8 12) (n8 0) (n8 10) (n8 0) (n8 0) (n8 0) (n8 7) (n8 0) (n8 0) (n8 0)) (.mk (n8 1) (n8 0) (n8 16) (n8 0) (n8 11) (n8 0) (n8 0) (n8 0) (n8 10) (n8 0) (n8 0) (n8 0) (n8 11) (n8 0) (n8 0) (n8 0)) (.mk (n8 1) (n8 0) (n8 12) (n8 0) (n8 12) (n8 0) (n8 0) (n8 0) (n8 10) (n8 0) (n8 0) (n8 0) (n8 5) (n8 0) (n8 8) (n8 0)) (F.all .u) (F.all .u) (F.all .u) (F.all .u) (F.all .u) (F.all .u) (F.all .u) (F.all .u) (F.all .u) (F.all .u) (F.all .u) (F.all .u) (F.all .u))))
noncomputable def ug12 : GB := (.rw (Cs.putL (L [(.m 2206), (.m 48)]) 0 (Cs.mk 2)))
noncomputable def ug13 : GB := (.rw (.c1 (.mk (n64 1) (.m 38) (.p 35 0) (.p 40 0) (.p 42 0) (.p 45 0) (.m 46) (n64 0) (.p 49 0) (.p 50 0) (.m 51) (n64 0) (.p 52 0) (n64 0) (n64 0) (n64 0))))
noncomputable def ug14 : GB := (.mp (L [(n64 1), (.agg (L [(n64 1), (n64 1)])), (n64 2), (.agg (L [(n64 2), (n64 1)])), (n64 3), (.agg (L [(n64 4), (n64 1)])), (n64 4), (.agg (L [(n64 5), (n64 1)])), (n64 5), (.agg (L [(n64 10), (n64 1)])), (n64 6), (.agg (L [(n64 12), (n64 1)])), (n64 7), (.agg (L [(n64 15), (n64 1)])), (n64 8), (.agg (L [(n64 6), (n64 1)]))]))
noncomputable def ug15 : GB := (.rw (Cs.putL (L [(.s 277 196 1 0 0 true), .ni]) 0 (Cs.mk 2)))
noncomputable def ug16 : GB := (.rw (Cs.putL (L [(n64 16384), (.s 1859 0 1 0 0 false), (.b false)]) 0 (Cs.mk 3)))
noncomputable def ug17 : GB := (.rw (Cs.putL (L [(.m 3324), (.m 48)]) 0 (Cs.mk 2)))
noncomputable def ug18 : GB := (.rw (.c1 (.mk (n64 1) (.m 38) (.p 35 0) (.p 40 0) (.p 42 0) (.p 45 0) (.m 46) (n64 0) (.p 49 0) (.p 50 0) (.m 51) (n64 0) (.p 52 0) (n64 1) (n64 0) (n64 0))))
noncomputable def ug19 : GB := (.mp (L [(n64 8), (n64 1), (n64 11), (n64 1010), (n64 12), (n64 1010)]))
noncomputable def ug20 : GB := (.mp (L [(n64 1), (.agg (L [(n64 1), (n64 1)])), (n64 2), (.agg (L [(n64 2), (n64 1)])), (n64 3), (.agg (L [(n64 4), (n64 1)])), (n64 4), (.agg (L [(n64 5), (n64 1)])), (n64 5), (.agg (L [(n64 10), (n64 1)])), (n64 6), (.agg (L [(n64 12), (n64 1)])), (n64 7), (.agg (L [(n64 15), (n64 1)])), (n64 8), (.agg (L [(n64 6), (n64 1)])), (n64 10), (.agg (L [(n64 8), (n64 1)])), (n64 11), (.agg (L [(n64 16), (n64 1)])), (n64 12), (.agg (L [(n64 17), (n64 1)]))]))
noncomputable def ug21 : GB := (.rw (Cs.putL (L [(.s 2262 40 1 0 0 true), .ni]) 0 (Cs.mk 2)))
noncomputable def ug22 : GB := (.rw (Cs.putL (L [(n64 16384), (.s 3424 0 1 28 28 false), (.b false)]) 0 (Cs.mk 3)))
noncomputable def ug23 : GB := (.rw (.c2 (.mk (.mk (n64 1010) (n64 0) (.b false) (.b false) (n64 0) .ns .ns (.b false) (.b false) .ns (.b false) .ns .ns (.b false) (n64 0) .ns) (.mk .ns (.b false) (.b false) .ns (.b false) .ns .ns (.b false) (n64 0) .ns .ns (.b false) (.b true) .ns (.b false) (.s 3266 0 1 1 1 false)) (.mk .ns .u .u .u .u .u .u .u .u .u .u .u .u .u .u .u) (F.all .u) (F.all .u) (F.all .u) (F.all .u) (F.all .u) (F.all .u) (F.all .u) (F.all .u) (F.all .u) (F.all .u) (F.all .u) (F.all .u) (F.all .u))))
noncomputable def ug24 : GB := (.rw (Cs.putL (L [(n64 2), (.s 3287 0 1 1 1 false)]) 0 (Cs.mk 2)))
noncomputable def ug25 : GB := (.rw (Cs.putL (L [(n64 0)]) 0 (Cs.mk 1)))
noncomputable def ug26 : GB := (.rw (Cs.putL (L [(n64 1)]) 0 (Cs.mk 1)))
noncomputable def ug27 : GB := (.rw (.c2 (.mk (.mk (n8 12) (n8 0) (n8 0) (n8 0) (n8 0) (n8 0) (n8 16) (n8 0) (n8 0) (n8 0) (n8 0) (n8 0) (n8 0) (n8 0) (n8 0) (n8 0)) (.mk (n8 11) (n8 0) (n8 0) (n8 0) (n8 0) (n8 0) (n8 12) (n8 0) (n8 1) (n8 0) (n8 0) (n8 0) .u .u .u .u) (F.all .u) (F.all .u) (F.all .u) (F.all .u) (F.all .u) (F.all .u) (F.all .u) (F.all .u) (F.all .u) (F.all .u) (F.all .u) (F.all .u) (F.all .u) (F.all .u))))
/-- (*tableau/server.Server).feed -/
noncomputable def ue7a : AV := (L [(.p 54 0), (n64 1), (.s 2261 0 1 48 48 false)])
noncomputable def ue7u : BL := [(1, ug0), (2, ug1), (3, ug2), (19, ug3), (38, (.mp (L [(n64 1), (.p 78 0)]))), (40, ug4), (42, ug5), (54, ug6), (74, ug7), (78, ug8), (81, ug9), (83, ug10), (2206, (.mp .nil)), (2261, ug11)]
noncomputable def ue7c : BL := [(39, (.mp .nil)), (41, (.mp .nil)), (49, ug12), (53, ug13), (66, (.mp (L [(n64 8), (n64 1)]))), (73, ug14), (79, ug15), (80, ug16)]
noncomputable def ue7l : BL := [(39, (.mp (L [(n64 1010), (.p 2361 0)]))), (41, (.mp (L [(n64 1010), (.p 2740 0)]))), (49, ug17), (53, ug18), (66, ug19), (73, ug20), (79, ug21), (80, ug22), (2262, ug11), (2361, ug23), (2740, ug24), (3266, ug25), (3287, ug26), (3324, (.mp .nil)), (3424, ug27)]
noncomputable def ue7v : AV := (.tup .nil)
noncomputable def ue7 : Ent := .mk ue7a 2262 ue7u ue7c ue7v 3425 ue7l
noncomputable def ug28 : GB := (.mp (L [(n64 1008), (.agg (L [(n64 1), (n64 4096)]))]))
noncomputable def ug29 : GB := (.rw (Cs.putL (L [(.m 43), (.m 44)]) 0 (Cs.mk 2)))
noncomputable def ug30 : GB := (.rw (.c2 (.mk (.mk (n8 11) (n8 0) (n8 0) (n8 0) (n8 2) (n8 0) (n8 12) (n8 0) (n8 1) (n8 0) (n8 0) (n8 0) (n8 8) (n8 0) (n8 0) (n8 0)) (.mk (n8 0) (n8 0) (n8 32) (n8 0) (n8 13) (n8 0) (n8 0) (n8 0) (n8 0) (n8 0) (n8 0) (n8 0) (n8 2) (n8 0) (n8 0) (n8 0)) (.mk (n8 2) (n8 0) (n8 0) (n8 0) (n8 8) (n8 0) (n8 0) (n8 0) (n8 0) (n8 0) (n8 0) (n8 0) (n8 10) (n8 0) (n8 0) (n8 0)) (.mk (n8 1) (n8 0) (n8 20) (n8 0) (n8 13) (n8 0) (n8 0) (n8 0) (n8 0) (n8 0) (n8 0) (n8 0) (n8 0) (n8 0) (n8 0) (n8 0)) (.mk (n8 10) (n8 0) (n8 0) (n8 0) (n8 5) (n8 0) (n8 8) (n8 0) .u .u .u .u .u .u .u .u) (F.all .u) (F.all .u) (F.all .u) (F.all .u) (F.all .u) (F.all .u) (F.all .u) (F.all .u) (F.all .u) (F.all .u) (F.all .u))))
noncomputable def ug31 : GB := (.mp (L [(n64 1), (.agg (L [(n64 1), (n64 0), (n64 2), (n64 2), (n64 8), (n64 0), (.b true)]))]))
noncomputable def ug32 : GB := (.rw (Cs.putL (L [(.m 4332), (.m 48)]) 0 (Cs.mk 2)))
noncomputable def ug33 : GB := (.rw (Cs.putL (L [(.s 4295 0 1 1 1 false)]) 0 (Cs.mk 1)))
noncomputable def ug34 : GB := (.mp (L [(n64 1010), (.agg (L [(n64 1010), (n64 0), (n64 0)]))]))
noncomputable def ug35 : GB := (.rw (.c1 (.mk (n64 1) (.m 38) (.p 35 0) (.p 40 0) (.p 42 0) (.p 45 0) (.m 46) (n64 1) (.p 49 0) (.p 50 0) (.m 51) (n64 1) (.p 52 0) (n64 1) (n64 0) (n64 0))))
noncomputable def ug36 : GB := (.mp (L [(n64 8), (n64 1), (n64 11), (n64 1010), (n64 12), (n64 1010), (n64 13), (n64 1)]))
noncomputable def ug37 : GB := (.mp (L [(n64 1), (.agg (L [(n64 1), (n64 1)])), (n64 2), (.agg (L [(n64 2), (n64 1)])), (n64 3), (.agg (L [(n64 4), (n64 1)])), (n64 4), (.agg (L [(n64 5), (n64 1)])), (n64 5), (.agg (L [(n64 10), (n64 1)])), (n64 6), (.agg (L [(n64 12), (n64 1)])), (n64 7), (.agg (L [(n64 15), (n64 1)])), (n64 8), (.agg (L [(n64 6), (n64 1)])), (n64 10), (.agg (L [(n64 8), (n64 1)])), (n64 11), (.agg (L [(n64 16), (n64 1)])), (n64 12), (.agg (L [(n64 17), (n64 1)])), (n64 13), (.agg (L [(n64 7), (n64 1)]))]))
noncomputable def ug38 : GB := (.rw (Cs.putL (L [(.s 3511 64 1 0 0 true), .ni]) 0 (Cs.mk 2)))
noncomputable def ug39 : GB := (.rw (.c2 (.mk (.mk (n64 1010) (n64 0) (.b false) (.b false) (n64 0) .ns .ns (.b false) (.b false) .ns (.b false) .ns .ns (.b false) (n64 0) .ns) (.mk .ns (.b false) (.b false) .ns (.b false) .ns .ns (.b false) (n64 1) .ns .ns (.b false) (.b true) .ns (.b false) (.s 4290 0 1 1 1 false)) (.mk .ns .u .u .u .u .u .u .u .u .u .u .u .u .u .u .u) (F.all .u) (F.all .u) (F.all .u) (F.all .u) (F.all .u) (F.all .u) (F.all .u) (F.all .u) (F.all .u) (F.all .u) (F.all .u) (F.all .u) (F.all .u))))
noncomputable def ug40 : GB := (.rw (Cs.putL (L [(n64 4), (.s 3606 0 1 0 0 true)]) 0 (Cs.mk 2)))
noncomputable def ug41 : GB := (.rw (Cs.putL (L [(n64 1010)]) 0 (Cs.mk 1)))
/-- (*tableau/server.Server).feed -/
noncomputable def ue8a : AV := (L [(.p 54 0), (n64 1), (.s 3510 0 1 72 72 false)])
noncomputable def ue8u : BL := [(1, ug0), (3, ug2), (19, ug3), (38, (.mp (L [(n64 1), (.p 78 0)]))), (39, (.mp (L [(n64 1010), (.p 2361 0)]))), (40, ug4), (41, (.mp (L [(n64 1010), (.p 2740 0)]))), (42, ug5), (43, ug28), (45, ug29), (54, ug6), (74, ug7), (78, ug8), (81, ug9), (83, ug10), (3266, ug25), (3287, ug26), (3324, (.mp .nil)), (3510, ug30)]
noncomputable def ue8c : BL := [(44, (.mp .nil)), (46, (.mp .nil)), (49, ug17), (50, (.rw (Cs.putL (L [.ns]) 0 (Cs.mk 1)))), (51, (.mp .nil)), (53, ug18), (66, ug19), (73, ug20), (79, ug21), (2361, ug23), (2740, ug24)]
noncomputable def ue8l : BL := [(44, ug31), (46, (.mp (L [(n64 1), (n64 1013)]))), (49, ug32), (50, ug33), (51, ug34), (53, ug35), (66, ug36), (73, ug37), (79, ug38), (2361, ug39), (2740, ug40), (3511, ug30), (3606, (.rw (.c1 (F.all .u)))), (4290, ug25), (4295, ug41), (4332, (.mp (L [(n64 1), (.b true)])))]
noncomputable def ue8v : AV := (.tup .nil)
noncomputable def ue8 : Ent := .mk ue8a 3511 ue8u ue8c ue8v 4336 ue8l
noncomputable def ug42 : GB := (.mp (L [(n64 1010), (.p 2361 0), (n64 1020), (.p 4572 0)]))
noncomputable def ug43 : GB := (.rw (.c2 (.mk (.mk (n64 1020) (n64 0) (.b false) (.b false) (n64 0) .ns .ns (.b false) (.b false) .ns (.b false) .ns .ns (.b false) (n64 0) .ns) (.mk .ns (.b false) (.b false) .ns (.b false) .ns .ns (.b false) (n64 0) .ns .ns (.b false) (.b true) .ns (.b false) (.s 4571 0 1 1 1 true)) (.mk .ns .u .u .u .u .u .u .u .u .u .u .u .u .u .u .u) (F.all .u) (F.all .u) (F.all .u) (F.all .u) (F.all .u) (F.all .u) (F.all .u) (F.all .u) (F.all .u) (F.all .u) (F.all .u) (F.all .u) (F.all .u))))
noncomputable def ug44 : GB := (.rw (Cs.putL (L [(n64 1), (n64 0)]) 0 (Cs.mk 2)))
/-- (*tableau/forest.Forest).Held -/
noncomputable def ue9a : AV := (L [(.p 40 0)])
noncomputable def ue9u : BL := [(39, ug42), (40, ug4), (2361, ug39), (4572, ug43)]
noncomputable def ue9c : BL := []
noncomputable def ue9l : BL := [(4610, ug44)]
noncomputable def ue9v : AV := (.s 4610 0 1 1 2 false)
noncomputable def ue9 : Ent := .mk ue9a 4606 ue9u ue9c ue9v 4611 ue9l
/-- (*tableau/forest.Forest).Held -/
noncomputable def ue10a : AV := (L [(.p 40 0)])
noncomputable def ue10u : BL := [(39, ug42), (40, ug4), (2361, ug39), (4572, ug43)]
noncomputable def ue10c : BL := []
noncomputable def ue10l : BL := [(4991, ug44)]
noncomputable def ue10v : AV := (.s 4991 0 1 1 2 false)
noncomputable def ue10 : Ent := .mk ue10a 4987 ue10u ue10c ue10v 4992 ue10l
/-- (*tableau/forest.Forest).Held -/
noncomputable def ue11a : AV := (L [(.p 40 0)])
noncomputable def ue11u : BL := [(39, ug42), (40, ug4), (2361, ug39), (4572, ug43)]
noncomputable def ue11c : BL := []
noncomputable def ue11l : BL := [(5121, ug44)]
noncomputable def ue11v : AV := (.s 5121 0 1 1 2 false)
noncomputable def ue11 : Ent := .mk ue11a 5117 ue11u ue11c ue11v 5122 ue11l
noncomputable def ug45 : GB := (.rw (.c2 (.mk (.mk (n64 1020) (n64 0) (.b false) (.b false) (n64 0) .ns .ns (.b false) (.b false) .ns (.b false) .ns .ns (.b false) (n64 0) .ns) (.mk .ns (.b false) (.b false) .ns (.b false) .ns .ns (.b false) (n64 0) .ns .ns (.b false) (.b true) .ns (.b false) (.s 5483 0 1 1 1 false)) (.mk .ns .u .u .u .u .u .u .u .u .u .u .u .u .u .u .u) (F.all .u) (F.all .u) (F.all .u) (F.all .u) (F.all .u) (F.all .u) (F.all .u) (F.all .u) (F.all .u) (F.all .u) (F.all .u) (F.all .u) (F.all .u))))
/-- (*tableau/forest.Forest).Held -/
noncomputable def ue12a : AV := (L [(.p 40 0)])
noncomputable def ue12u : BL := [(39, ug42), (40, ug4), (2361, ug39), (4572, ug45)]
noncomputable def ue12c : BL := []
noncomputable def ue12l : BL := [(5542, ug44)]
noncomputable def ue12v : AV := (.s 5542 0 1 1 2 false)
noncomputable def ue12 : Ent := .mk ue12a 5538 ue12u ue12c ue12v 5543 ue12l
noncomputable def ug46 : GB := (.mp (L [(n64 1010), (.p 2740 0), (n64 1020), (.p 4953 0)]))
noncomputable def ug47 : GB := (.mp (L [(n64 8), (n64 1), (n64 11), (n64 1010), (n64 12), (n64 1010), (n64 13), (n64 1), (n64 21), (n64 1020), (n64 22), (n64 1020)]))
noncomputable def ug48 : GB := (.mp (L [(n64 1), (.agg (L [(n64 1), (n64 1)])), (n64 2), (.agg (L [(n64 2), (n64 1)])), (n64 3), (.agg (L [(n64 4), (n64 1)])), (n64 4), (.agg (L [(n64 5), (n64 1)])), (n64 5), (.agg (L [(n64 10), (n64 1)])), (n64 6), (.agg (L [(n64 12), (n64 1)])), (n64 7), (.agg (L [(n64 15), (n64 1)])), (n64 8), (.agg (L [(n64 6), (n64 1)])), (n64 10), (.agg (L [(n64 8), (n64 1)])), (n64 11), (.agg (L [(n64 16), (n64 1)])), (n64 12), (.agg (L [(n64 17), (n64 1)])), (n64 13), (.agg (L [(n64 7), (n64 1)])), (n64 20), (.agg (L [(n64 8), (n64 1)])), (n64 21), (.agg (L [(n64 16), (n64 1)])), (n64 22), (.agg (L [(n64 17), (n64 1)]))]))
noncomputable def ug49 : GB := (.rw (Cs.putL (L [(.m 5122), (.m 48)]) 0 (Cs.mk 2)))
noncomputable def ug50 : GB := (.rw (Cs.putL (L [(n64 1), .ns]) 0 (Cs.mk 2)))
noncomputable def ug51 : GB := (.rw (Cs.putL (L [(.m 5543), (.m 48)]) 0 (Cs.mk 2)))
noncomputable def ug52 : GB := (.rw (.c1 (.mk (n64 1) (.m 38) (.p 35 0) (.p 40 0) (.p 42 0) (.p 45 0) (.m 46) (n64 1) (.p 49 0) (.p 50 0) (.m 51) (n64 1) (.p 52 0) (n64 2) (n64 0) (n64 0))))
noncomputable def ug53 : GB := (.rw (Cs.putL (L [(.p 74 0), (.m 66), (.m 67), (.p 76 0), (.p 77 0), (.s 5502 0 4 2 2 false)]) 0 (Cs.mk 6)))
noncomputable def ug54 : GB := (.rw (Cs.putL (L [(n64 2), (.s 5504 0 1 1 1 false)]) 0 (Cs.mk 2)))
noncomputable def ug55 : GB := (.rw (Cs.putL (L [(n8 105), (n64 0), (.str []), (n8 105), (n64 0), (.str [])]) 0 (Cs.mk 6)))
noncomputable def ug56 : GB := (.rw (Cs.putL (L [(n8 117), (n64 2), (.str [])]) 0 (Cs.mk 3)))
noncomputable def ug57 : GB := (.rw (Cs.putL (L [(n64 17), (n64 22), (n64 0), (.s 5492 0 3 2 2 true), (n64 16), (n64 21), (n64 0), (.s 5500 0 3 1 1 true)]) 0 (Cs.mk 8)))
noncomputable def ug58 : GB := (.rw (Cs.putL (L [(n64 2)]) 0 (Cs.mk 1)))
/-- (*tableau/desk.Desk).Handle -/
noncomputable def ue13a : AV := (L [(.p 53 0), (n64 1), (.agg (L [(n64 20), (n64 5), (.str [])]))])
noncomputable def ue13u : BL := [(1, ug0), (38, (.mp (L [(n64 1), (.p 78 0)]))), (39, ug42), (40, ug4), (41, ug46), (42, ug5), (66, ug47), (73, ug48), (74, ug7), (2361, ug39), (4571, ug25), (5122, (.mp (L [(n64 1), (.b true)])))]
noncomputable def ue13c : BL := [(49, ug49), (53, ug35), (78, ug8), (4572, ug43), (4953, ug50)]
noncomputable def ue13l : BL := [(49, ug51), (53, ug52), (78, ug53), (4572, ug45), (4953, ug54), (5483, ug25), (5492, ug55), (5500, ug56), (5502, ug57), (5504, ug58), (5543, (.mp (L [(n64 1), (.b true)])))]
noncomputable def ue13v : AV := .ni
noncomputable def ue13 : Ent := .mk ue13a 5127 ue13u ue13c ue13v 5547 ue13l
noncomputable def ug59 : GB := (.rw (.c2 (.mk (.mk (n8 3) (n8 0) (n8 0) (n8 0) (n8 0) (n8 0) (n8 12) (n8 0) (n8 20) (n8 0) (n8 0) (n8 0) (n8 7) (n8 0) (n8 0) (n8 0)) (.mk (n8 1) (n8 0) (n8 16) (n8 0) (n8 21) (n8 0) (n8 0) (n8 0) (n8 20) (n8 0) (n8 0) (n8 0) (n8 21) (n8 0) (n8 0) (n8 0)) (.mk (n8 1) (n8 0) (n8 12) (n8 0) (n8 22) (n8 0) (n8 0) (n8 0) (n8 20) (n8 0) (n8 0) (n8 0) (n8 5) (n8 0) (n8 8) (n8 0)) (F.all .u) (F.all .u) (F.all .u) (F.all .u) (F.all .u) (F.all .u) (F.all .u) (F.all .u) (F.all .u) (F.all .u) (F.all .u) (F.all .u) (F.all .u))))
noncomputable def ug60 : GB := (.rw (Cs.putL (L [(.s 4473 40 1 0 0 true), .ni]) 0 (Cs.mk 2)))
noncomputable def ug61 : GB := (.rw (Cs.putL (L [(n64 16384), (.s 5643 0 1 56 56 false), (.b false)]) 0 (Cs.mk 3)))
noncomputable def ug62 : GB := (.rw (.c2 (.mk (.mk (n8 12) (n8 0) (n8 0) (n8 0) (n8 0) (n8 0) (n8 16) (n8 0) (n8 0) (n8 0) (n8 0) (n8 0) (n8 0) (n8 0) (n8 0) (n8 0)) (.mk (n8 11) (n8 0) (n8 0) (n8 0) (n8 0) (n8 0) (n8 12) (n8 0) (n8 1) (n8 0) (n8 0) (n8 0) (n8 22) (n8 0) (n8 0) (n8 0)) (.mk (n8 0) (n8 0) (n8 16) (n8 0) (n8 0) (n8 0) (n8 0) (n8 0) (n8 0) (n8 0) (n8 0) (n8 0) (n8 21) (n8 0) (n8 0) (n8 0)) (.mk (n8 0) (n8 0) (n8 12) (n8 0) (n8 2) (n8 0) (n8 0) (n8 0) .u .u .u .u .u .u .u .u) (F.all .u) (F.all .u) (F.all .u) (F.all .u) (F.all .u) (F.all .u) (F.all .u) (F.all .u) (F.all .u) (F.all .u) (F.all .u) (F.all .u))))
/-- (*tableau/server.Server).feed -/
noncomputable def ue14a : AV := (L [(.p 54 0), (n64 1), (.s 4472 0 1 48 48 false)])
noncomputable def ue14u : BL := [(1, ug0), (2, ug1), (3, ug2), (19, ug3), (38, (.mp (L [(n64 1), (.p 78 0)]))), (40, ug4), (42, ug5), (54, ug6), (74, ug7), (78, ug8), (81, ug9), (83, ug10), (2361, ug39), (3424, ug27), (4332, (.mp (L [(n64 1), (.b true)]))), (4472, ug59)]
noncomputable def ue14c : BL := [(39, (.mp (L [(n64 1010), (.p 2361 0)]))), (41, (.mp (L [(n64 1010), (.p 2740 0)]))), (49, ug32), (53, ug35), (66, ug36), (73, ug37), (79, ug38), (80, ug22)]
noncomputable def ue14l : BL := [(39, ug42), (41, ug46), (49, ug51), (53, ug52), (66, ug47), (73, ug48), (79, ug60), (80, ug61), (4473, ug59), (4572, ug45), (4953, ug54), (5483, ug25), (5504, ug58), (5543, (.mp (L [(n64 1), (.b true)]))), (5643, ug62)]
noncomputable def ue14v : AV := (.tup .nil)
noncomputable def ue14 : Ent := .mk ue14a 4473 ue14u ue14c ue14v 5644 ue14l
/-- (*tableau/forest.Forest).Held -/
noncomputable def ue15a : AV := (L [(.p 40 0)])
noncomputable def ue15u : BL := [(39, ug42), (40, ug4), (2361, ug39), (4572, ug45)]
noncomputable def ue15c : BL := []
noncomputable def ue15l : BL := [(5944, ug44)]
noncomputable def ue15v : AV := (.s 5944 0 1 1 2 false)
noncomputable def ue15 : Ent := .mk ue15a 5940 ue15u ue15c ue15v 5945 ue15l
/-- (*tableau/forest.Forest).Held -/
noncomputable def ue16a : AV := (L [(.p 40 0)])
noncomputable def ue16u : BL := [(39, ug42), (40, ug4), (2361, ug39), (4572, ug45)]
noncomputable def ue16c : BL := []
noncomputable def ue16l : BL := [(6131, ug44)]
noncomputable def ue16v : AV := (.s 6131 0 1 1 2 false)
noncomputable def ue16 : Ent := .mk ue16a 6127 ue16u ue16c ue16v 6132 ue16l
noncomputable def ug63 : GB := (.rw (.c2 (.mk (.mk (n64 1020) (n64 0) (.b false) (.b true) (n64 2) .ns .ns (.b false) (.b false) .ns (.b false) .ns .ns (.b false) (n64 0) .ns) (.mk .ns (.b false) (.b false) .ns (.b false) .ns .ns (.b false) (n64 0) .ns .ns (.b false) (.b true) .ns (.b false) (.s 5483 0 1 1 1 false)) (.mk .ns .u .u .u .u .u .u .u .u .u .u .u .u .u .u .u) (F.all .u) (F.all .u) (F.all .u) (F.all .u) (F.all .u) (F.all .u) (F.all .u) (F.all .u) (F.all .u) (F.all .u) (F.all .u) (F.all .u) (F.all .u))))
/-- (*tableau/forest.Forest).Held -/
noncomputable def ue17a : AV := (L [(.p 40 0)])
noncomputable def ue17u : BL := [(39, ug42), (40, ug4), (2361, ug39), (4572, ug63)]
noncomputable def ue17c : BL := []
noncomputable def ue17l : BL := [(6283, ug44)]
noncomputable def ue17v : AV := (.s 6283 0 1 1 2 false)
noncomputable def ue17 : Ent := .mk ue17a 6279 ue17u ue17c ue17v 6284 ue17l
noncomputable def ug64 : GB := (.rw (.c2 (.mk (.mk (n64 1020) (n64 0) (.b false) (.b false) (n64 0) .ns .ns (.b false) (.b false) .ns (.b false) .ns .ns (.b false) (n64 0) .ns) (.mk .ns (.b false) (.b false) .ns (.b false) .ns .ns (.b false) (n64 2) .ns .ns (.b false) (.b true) .ns (.b false) (.s 6596 0 1 1 1 false)) (.mk .ns .u .u .u .u .u .u .u .u .u .u .u .u .u .u .u) (F.all .u) (F.all .u) (F.all .u) (F.all .u) (F.all .u) (F.all .u) (F.all .u) (F.all .u) (F.all .u) (F.all .u) (F.all .u) (F.all .u) (F.all .u))))
noncomputable def ug65 : GB := (.rw (Cs.putL (L [(n64 1), (n64 2)]) 0 (Cs.mk 2)))
/-- (*tableau/forest.Forest).Held -/
noncomputable def ue18a : AV := (L [(.p 40 0)])
noncomputable def ue18u : BL := [(39, ug42), (40, ug4), (2361, ug39), (4572, ug64)]
noncomputable def ue18c : BL := []
noncomputable def ue18l : BL := [(6640, ug65)]
noncomputable def ue18v : AV := (.s 6640 0 1 2 2 false)
noncomputable def ue18 : Ent := .mk ue18a 6636 ue18u ue18c ue18v 6641 ue18l
noncomputable def ug66 : GB := (.rw (Cs.putL (L [(.m 6284), (.m 48)]) 0 (Cs.mk 2)))
noncomputable def ug67 : GB := (.rw (Cs.putL (L [(.m 6641), (.m 48)]) 0 (Cs.mk 2)))
noncomputable def ug68 : GB := (.mp (L [(n64 1), (.b true), (n64 2), (.b true)]))
/-- (*tableau/uses.Uses).Now -/
noncomputable def ue19a : AV := (L [(.p 49 0), (.s 6640 0 1 2 2 false)])
noncomputable def ue19u : BL := [(6284, (.mp (L [(n64 1), (.b true)]))), (6640, ug65)]
noncomputable def ue19c : BL := [(49, ug66)]
noncomputable def ue19l : BL := [(49, ug67), (6641, ug68)]
noncomputable def ue19v : AV := .ns
noncomputable def ue19 : Ent := .mk ue19a 6641 ue19u ue19c ue19v 6645 ue19l
noncomputable def ug69 : GB := (.rw (.c2 (.mk (.mk (n8 21) (n8 0) (n8 0) (n8 0) (n8 2) (n8 0) (n8 12) (n8 0) (n8 2) (n8 0) (n8 0) (n8 0) (n8 8) (n8 0) (n8 0) (n8 0)) (.mk (n8 0) (n8 0) (n8 32) (n8 0) (n8 23) (n8 0) (n8 0) (n8 0) (n8 0) (n8 0) (n8 0) (n8 0) (n8 2) (n8 0) (n8 0) (n8 0)) (.mk (n8 2) (n8 0) (n8 0) (n8 0) (n8 8) (n8 0) (n8 0) (n8 0) (n8 0) (n8 0) (n8 0) (n8 0) (n8 20) (n8 0) (n8 0) (n8 0)) (.mk (n8 1) (n8 0) (n8 20) (n8 0) (n8 23) (n8 0) (n8 0) (n8 0) (n8 0) (n8 0) (n8 0) (n8 0) (n8 0) (n8 0) (n8 0) (n8 0)) (.mk (n8 20) (n8 0) (n8 0) (n8 0) (n8 5) (n8 0) (n8 8) (n8 0) .u .u .u .u .u .u .u .u) (F.all .u) (F.all .u) (F.all .u) (F.all .u) (F.all .u) (F.all .u) (F.all .u) (F.all .u) (F.all .u) (F.all .u) (F.all .u))))
noncomputable def ug70 : GB := (.mp (L [(n64 1), (.agg (L [(n64 1), (n64 0), (n64 2), (n64 2), (n64 8), (n64 0), (.b true)])), (n64 2), (.agg (L [(n64 1), (n64 0), (n64 2), (n64 2), (n64 8), (n64 0), (.b true)]))]))
noncomputable def ug71 : GB := (.mp (L [(n64 1), (n64 1013), (n64 2), (n64 1023)]))
noncomputable def ug72 : GB := (.rw (Cs.putL (L [(.s 6602 0 1 2 2 false)]) 0 (Cs.mk 1)))
noncomputable def ug73 : GB := (.mp (L [(n64 1010), (.agg (L [(n64 1010), (n64 0), (n64 0)])), (n64 1020), (.agg (L [(n64 1020), (n64 3), (n64 2)]))]))
noncomputable def ug74 : GB := (.rw (.c1 (.mk (n64 1) (.m 38) (.p 35 0) (.p 40 0) (.p 42 0) (.p 45 0) (.m 46) (n64 2) (.p 49 0) (.p 50 0) (.m 51) (n64 2) (.p 52 0) (n64 2) (n64 0) (n64 0))))
noncomputable def ug75 : GB := (.mp (L [(n64 8), (n64 1), (n64 11), (n64 1010), (n64 12), (n64 1010), (n64 13), (n64 1), (n64 21), (n64 1020), (n64 22), (n64 1020), (n64 23), (n64 2)]))
noncomputable def ug76 : GB := (.mp (L [(n64 1), (.agg (L [(n64 1), (n64 1)])), (n64 2), (.agg (L [(n64 2), (n64 1)])), (n64 3), (.agg (L [(n64 4), (n64 1)])), (n64 4), (.agg (L [(n64 5), (n64 1)])), (n64 5), (.agg (L [(n64 10), (n64 1)])), (n64 6), (.agg (L [(n64 12), (n64 1)])), (n64 7), (.agg (L [(n64 15), (n64 1)])), (n64 8), (.agg (L [(n64 6), (n64 1)])), (n64 10), (.agg (L [(n64 8), (n64 1)])), (n64 11), (.agg (L [(n64 16), (n64 1)])), (n64 12), (.agg (L [(n64 17), (n64 1)])), (n64 13), (.agg (L [(n64 7), (n64 1)])), (n64 20), (.agg (L [(n64 8), (n64 1)])), (n64 21), (.agg (L [(n64 16), (n64 1)])), (n64 22), (.agg (L [(n64 17), (n64 1)])), (n64 23), (.agg (L [(n64 7), (n64 1)]))]))
noncomputable def ug77 : GB := (.rw (Cs.putL (L [(.s 5811 64 1 0 0 true), .ni]) 0 (Cs.mk 2)))
noncomputable def ug78 : GB := (.rw (Cs.putL (L [(n64 4), (.s 5906 0 1 0 0 true)]) 0 (Cs.mk 2)))
noncomputable def ug79 : GB := (.rw (Cs.putL (L [(n64 1010), (n64 1020)]) 0 (Cs.mk 2)))
/-- (*tableau/server.Server).feed -/
noncomputable def ue20a : AV := (L [(.p 54 0), (n64 1), (.s 5810 0 1 72 72 false)])
noncomputable def ue20u : BL := [(1, ug0), (3, ug2), (19, ug3), (38, (.mp (L [(n64 1), (.p 78 0)]))), (39, ug42), (40, ug4), (41, ug46), (42, ug5), (43, ug28), (45, ug29), (54, ug6), (74, ug7), (78, ug8), (81, ug9), (83, ug10), (2361, ug39), (4295, ug41), (5483, ug25), (5504, ug58), (5543, (.mp (L [(n64 1), (.b true)]))), (5810, ug69)]
noncomputable def ue20c : BL := [(44, ug31), (46, (.mp (L [(n64 1), (n64 1013)]))), (49, ug51), (50, ug33), (51, ug34), (53, ug52), (66, ug47), (73, ug48), (79, ug60), (4572, ug45), (4953, ug54)]
noncomputable def ue20l : BL := [(44, ug70), (46, ug71), (49, ug67), (50, ug72), (51, ug73), (53, ug74), (66, ug75), (73, ug76), (79, ug77), (4572, ug64), (4953, ug78), (5811, ug69), (5906, (.rw (.c1 (F.all .u)))), (6596, ug25), (6602, ug79), (6641, ug68)]
noncomputable def ue20v : AV := (.tup .nil)
noncomputable def ue20 : Ent := .mk ue20a 5811 ue20u ue20c ue20v 6645 ue20l
/-- tableau/tableautop.window -/
noncomputable def ue21a : AV := (L [(.p 54 0), (n64 1), (n64 20), (n64 0), (n64 2), (n64 2)])
noncomputable def ue21u : BL := [(1, ug0), (2, ug1), (3, ug2), (19, ug3), (38, (.mp (L [(n64 1), (.p 78 0)]))), (40, ug4), (42, ug5), (43, ug28), (45, ug29), (54, ug6), (74, ug7), (78, ug8), (81, ug9), (83, ug10), (2361, ug39), (3424, ug27), (4290, ug25), (4295, ug41), (4332, (.mp (L [(n64 1), (.b true)])))]
noncomputable def ue21c : BL := [(39, (.mp (L [(n64 1010), (.p 2361 0)]))), (41, (.mp (L [(n64 1010), (.p 2740 0)]))), (44, ug31), (46, (.mp (L [(n64 1), (n64 1013)]))), (49, ug32), (50, ug33), (51, ug34), (53, ug35), (66, ug36), (73, ug37), (79, ug38), (80, ug22)]
noncomputable def ue21l : BL := [(39, ug42), (41, ug46), (44, ug70), (46, ug71), (49, ug67), (50, ug72), (51, ug73), (53, ug74), (66, ug75), (73, ug76), (79, ug77), (80, ug61), (4572, ug64), (4953, ug78), (5643, ug62), (5811, ug69), (5906, (.rw (.c1 (F.all .u)))), (6596, ug25), (6602, ug79), (6641, ug68)]
noncomputable def ue21v : AV := (.b true)
noncomputable def ue21 : Ent := .mk ue21a 4424 ue21u ue21c ue21v 6812 ue21l
noncomputable def ug80 : GB := (.rw (.c2 (.mk (.mk (n64 1010) (n64 0) (.b false) (.b true) (n64 0) .ns .ns (.b false) (.b false) .ns (.b false) .ns .ns (.b false) (n64 0) .ns) (.mk .ns (.b false) (.b false) .ns (.b false) .ns .ns (.b false) (n64 1) .ns .ns (.b false) (.b true) .ns (.b false) (.s 4290 0 1 1 1 false)) (.mk .ns .u .u .u .u .u .u .u .u .u .u .u .u .u .u .u) (F.all .u) (F.all .u) (F.all .u) (F.all .u) (F.all .u) (F.all .u) (F.all .u) (F.all .u) (F.all .u) (F.all .u) (F.all .u) (F.all .u) (F.all .u))))
/-- (*tableau/forest.Forest).Held -/
noncomputable def ue22a : AV := (L [(.p 40 0)])
noncomputable def ue22u : BL := [(39, ug42), (40, ug4), (2361, ug80), (4572, ug64)]
noncomputable def ue22c : BL := []
noncomputable def ue22l : BL := [(6993, ug65)]
noncomputable def ue22v : AV := (.s 6993 0 1 2 2 false)
noncomputable def ue22 : Ent := .mk ue22a 6989 ue22u ue22c ue22v 6994 ue22l
noncomputable def ug81 : GB := (.rw (Cs.putL (L [(.m 6994), (.m 48)]) 0 (Cs.mk 2)))
/-- (*tableau/uses.Uses).Now -/
noncomputable def ue23a : AV := (L [(.p 49 0), (.s 6993 0 1 2 2 false)])
noncomputable def ue23u : BL := [(6641, ug68), (6993, ug65)]
noncomputable def ue23c : BL := [(49, ug67)]
noncomputable def ue23l : BL := [(49, ug81), (6994, ug68)]
noncomputable def ue23v : AV := .ns
noncomputable def ue23 : Ent := .mk ue23a 6994 ue23u ue23c ue23v 6998 ue23l
noncomputable def ug82 : GB := (.rw (.c2 (.mk (.mk (n64 1010) (n64 0) (.b false) (.b false) (n64 0) .ns .ns (.b false) (.b false) .ns (.b false) .ns .ns (.b false) (n64 0) .ns) (.mk .ns (.b false) (.b false) .ns (.b false) .ns .ns (.b false) (n64 0) .ns .ns (.b false) (.b true) .ns (.b false) (.s 7306 0 1 1 1 false)) (.mk .ns .u .u .u .u .u .u .u .u .u .u .u .u .u .u .u) (F.all .u) (F.all .u) (F.all .u) (F.all .u) (F.all .u) (F.all .u) (F.all .u) (F.all .u) (F.all .u) (F.all .u) (F.all .u) (F.all .u) (F.all .u))))
noncomputable def ug83 : GB := (.rw (Cs.putL (L [(n64 2), (n64 0)]) 0 (Cs.mk 2)))
/-- (*tableau/forest.Forest).Held -/
noncomputable def ue24a : AV := (L [(.p 40 0)])
noncomputable def ue24u : BL := [(39, ug42), (40, ug4), (2361, ug82), (4572, ug64)]
noncomputable def ue24c : BL := []
noncomputable def ue24l : BL := [(7348, ug83)]
noncomputable def ue24v : AV := (.s 7348 0 1 1 2 false)
noncomputable def ue24 : Ent := .mk ue24a 7344 ue24u ue24c ue24v 7349 ue24l
noncomputable def ug84 : GB := (.rw (.c2 (.mk (.mk (n8 10) (n8 0) (n8 0) (n8 0) (n8 1) (n8 0) (n8 20) (n8 0) (n8 0) (n8 0) (n8 0) (n8 0) (n8 0) (n8 0) (n8 0) (n8 0)) (.mk (n8 0) (n8 0) (n8 0) (n8 0) (n8 10) (n8 0) (n8 0) (n8 0) (n8 5) (n8 0) (n8 8) (n8 0) .u .u .u .u) (F.all .u) (F.all .u) (F.all .u) (F.all .u) (F.all .u) (F.all .u) (F.all .u) (F.all .u) (F.all .u) (F.all .u) (F.all .u) (F.all .u) (F.all .u) (F.all .u))))
noncomputable def ug85 : GB := (.rw (Cs.putL (L [(.m 7349), (.m 48)]) 0 (Cs.mk 2)))
noncomputable def ug86 : GB := (.rw (Cs.putL (L [(.s 7309 0 1 1 2 true)]) 0 (Cs.mk 1)))
noncomputable def ug87 : GB := (.rw (Cs.putL (L [(.s 6842 20 1 0 0 true), .ni]) 0 (Cs.mk 2)))
noncomputable def ug88 : GB := (.rw (Cs.putL (L [(n64 16384), (.s 7395 0 1 64 64 false), (.b false)]) 0 (Cs.mk 3)))
noncomputable def ug89 : GB := (.rw (Cs.putL (L [(n64 1020), (n64 0)]) 0 (Cs.mk 2)))
noncomputable def ug90 : GB := (.rw (.c2 (.mk (.mk (n8 12) (n8 0) (n8 0) (n8 0) (n8 0) (n8 0) (n8 16) (n8 0) (n8 0) (n8 0) (n8 0) (n8 0) (n8 0) (n8 0) (n8 0) (n8 0)) (.mk (n8 11) (n8 0) (n8 0) (n8 0) (n8 0) (n8 0) (n8 12) (n8 0) (n8 1) (n8 0) (n8 0) (n8 0) (n8 22) (n8 0) (n8 0) (n8 0)) (.mk (n8 0) (n8 0) (n8 16) (n8 0) (n8 0) (n8 0) (n8 0) (n8 0) (n8 0) (n8 0) (n8 0) (n8 0) (n8 21) (n8 0) (n8 0) (n8 0)) (.mk (n8 0) (n8 0) (n8 12) (n8 0) (n8 2) (n8 0) (n8 0) (n8 0) (n8 13) (n8 0) (n8 0) (n8 0) (n8 0) (n8 0) (n8 8) (n8 0)) (F.all .u) (F.all .u) (F.all .u) (F.all .u) (F.all .u) (F.all .u) (F.all .u) (F.all .u) (F.all .u) (F.all .u) (F.all .u) (F.all .u))))
/-- (*tableau/server.Server).feed -/
noncomputable def ue25a : AV := (L [(.p 54 0), (n64 1), (.s 6841 0 1 28 28 false)])
noncomputable def ue25u : BL := [(1, ug0), (2, ug1), (3, ug2), (19, ug3), (38, (.mp (L [(n64 1), (.p 78 0)]))), (39, ug42), (40, ug4), (41, ug46), (42, ug5), (44, ug70), (45, ug29), (46, ug71), (53, ug74), (54, ug6), (66, ug75), (73, ug76), (74, ug7), (78, ug8), (81, ug9), (83, ug10), (4290, ug25), (4572, ug64), (5643, ug62), (6602, ug79), (6641, ug68), (6841, ug84)]
noncomputable def ue25c : BL := [(48, (.mp .nil)), (49, ug67), (50, ug72), (79, ug77), (80, ug61), (2361, ug39), (2740, ug40)]
noncomputable def ue25l : BL := [(48, (.mp (L [(n64 1), (n64 1)]))), (49, ug85), (50, ug86), (79, ug87), (80, ug88), (2361, ug82), (2740, ug50), (6842, ug84), (7306, ug25), (7309, ug89), (7349, (.mp (L [(n64 2), (.b true)]))), (7395, ug90)]
noncomputable def ue25v : AV := (.tup .nil)
noncomputable def ue25 : Ent := .mk ue25a 6842 ue25u ue25c ue25v 7396 ue25l
noncomputable def ug91 : GB := (.rw (.c2 (.mk (.mk (n64 1010) (n64 0) (.b false) (.b false) (n64 0) .ns .ns (.b false) (.b false) .ns (.b false) .ns .ns (.b false) (n64 0) .ns) (.mk .ns (.b false) (.b false) .ns (.b false) .ns .ns (.b false) (n64 0) .ns .ns (.b false) (.b true) .ns (.b false) (.s 7858 0 1 1 1 false)) (.mk .ns .u .u .u .u .u .u .u .u .u .u .u .u .u .u .u) (F.all .u) (F.all .u) (F.all .u) (F.all .u) (F.all .u) (F.all .u) (F.all .u) (F.all .u) (F.all .u) (F.all .u) (F.all .u) (F.all .u) (F.all .u))))
/-- (*tableau/forest.Forest).Held -/
noncomputable def ue26a : AV := (L [(.p 40 0)])
noncomputable def ue26u : BL := [(39, ug42), (40, ug4), (2361, ug91), (4572, ug64)]
noncomputable def ue26c : BL := []
noncomputable def ue26l : BL := [(7917, ug83)]
noncomputable def ue26v : AV := (.s 7917 0 1 1 2 false)
noncomputable def ue26 : Ent := .mk ue26a 7913 ue26u ue26c ue26v 7918 ue26l
noncomputable def ug92 : GB := (.rw (Cs.putL (L [(.m 7918), (.m 48)]) 0 (Cs.mk 2)))
noncomputable def ug93 : GB := (.rw (.c1 (.mk (n64 1) (.m 38) (.p 35 0) (.p 40 0) (.p 42 0) (.p 45 0) (.m 46) (n64 2) (.p 49 0) (.p 50 0) (.m 51) (n64 2) (.p 52 0) (n64 3) (n64 0) (n64 0))))
noncomputable def ug94 : GB := (.rw (Cs.putL (L [(.p 74 0), (.m 66), (.m 67), (.p 76 0), (.p 77 0), (.s 7877 0 4 2 2 false)]) 0 (Cs.mk 6)))
noncomputable def ug95 : GB := (.rw (Cs.putL (L [(n64 2), (.s 7879 0 1 1 1 false)]) 0 (Cs.mk 2)))
noncomputable def ug96 : GB := (.rw (Cs.putL (L [(n8 117), (n64 3), (.str [])]) 0 (Cs.mk 3)))
noncomputable def ug97 : GB := (.rw (Cs.putL (L [(n64 17), (n64 12), (n64 0), (.s 7867 0 3 2 2 true), (n64 16), (n64 11), (n64 0), (.s 7875 0 3 1 1 true)]) 0 (Cs.mk 8)))
noncomputable def ug98 : GB := (.rw (Cs.putL (L [(n64 3)]) 0 (Cs.mk 1)))
/-- (*tableau/desk.Desk).Handle -/
noncomputable def ue27a : AV := (L [(.p 53 0), (n64 1), (.agg (L [(n64 10), (n64 5), (.str [])]))])
noncomputable def ue27u : BL := [(1, ug0), (38, (.mp (L [(n64 1), (.p 78 0)]))), (39, ug42), (40, ug4), (41, ug46), (42, ug5), (66, ug75), (73, ug76), (74, ug7), (4572, ug64), (7306, ug25), (7349, (.mp (L [(n64 2), (.b true)])))]
noncomputable def ue27c : BL := [(49, ug85), (53, ug74), (78, ug8), (2361, ug82), (2740, ug50)]
noncomputable def ue27l : BL := [(49, ug92), (53, ug93), (78, ug94), (2361, ug91), (2740, ug95), (7858, ug25), (7867, ug55), (7875, ug96), (7877, ug97), (7879, ug98), (7918, (.mp (L [(n64 2), (.b true)])))]
noncomputable def ue27v : AV := .ni
noncomputable def ue27 : Ent := .mk ue27a 7502 ue27u ue27c ue27v 7922 ue27l
noncomputable def ug99 : GB := (.rw (.c2 (.mk (.mk (n64 1010) (n64 0) (.b false) (.b true) (n64 1) .ns .ns (.b false) (.b false) .ns (.b false) .ns .ns (.b false) (n64 0) .ns) (.mk .ns (.b false) (.b false) .ns (.b false) .ns .ns (.b false) (n64 0) .ns .ns (.b false) (.b true) .ns (.b false) (.s 7858 0 1 1 1 false)) (.mk .ns .u .u .u .u .u .u .u .u .u .u .u .u .u .u .u) (F.all .u) (F.all .u) (F.all .u) (F.all .u) (F.all .u) (F.all .u) (F.all .u) (F.all .u) (F.all .u) (F.all .u) (F.all .u) (F.all .u) (F.all .u))))
/-- (*tableau/forest.Forest).Held -/
noncomputable def ue28a : AV := (L [(.p 40 0)])
noncomputable def ue28u : BL := [(39, ug42), (40, ug4), (2361, ug99), (4572, ug64)]
noncomputable def ue28c : BL := []
noncomputable def ue28l : BL := [(8295, ug83)]
noncomputable def ue28v : AV := (.s 8295 0 1 1 2 false)
noncomputable def ue28 : Ent := .mk ue28a 8291 ue28u ue28c ue28v 8296 ue28l
noncomputable def ug100 : GB := (.ro (Cs.putL (L [(.ifc 465 (.p 32 0))]) 0 (Cs.mk 1)))
noncomputable def ug101 : GB := (.ro (Cs.putL (L [(.ifc 465 (.p 22 0))]) 0 (Cs.mk 1)))
noncomputable def ug102 : GB := (.ro (Cs.putL (L [(.ifc 465 (.p 20 0))]) 0 (Cs.mk 1)))
noncomputable def ug103 : GB := (.ro (Cs.putL (L [(.ifc 465 (.p 23 0))]) 0 (Cs.mk 1)))
noncomputable def ug104 : GB := (.ro (Cs.putL (L [(.ifc 465 (.p 21 0))]) 0 (Cs.mk 1)))
noncomputable def ug105 : GB := (.ro (Cs.putL (L [(.ifc 465 (.p 24 0))]) 0 (Cs.mk 1)))
noncomputable def ug106 : GB := (.ro (Cs.putL (L [(.ifc 465 (.p 25 0))]) 0 (Cs.mk 1)))
noncomputable def ug107 : GB := (.ro (Cs.putL (L [(.ifc 465 (.p 26 0))]) 0 (Cs.mk 1)))
noncomputable def ug108 : GB := (.ro (Cs.putL (L [(.ifc 465 (.p 27 0))]) 0 (Cs.mk 1)))
noncomputable def ug109 : GB := (.ro (Cs.putL (L [(.ifc 465 (.p 28 0))]) 0 (Cs.mk 1)))
noncomputable def ug110 : GB := (.ro (Cs.putL (L [(.ifc 465 (.p 29 0))]) 0 (Cs.mk 1)))
noncomputable def ug111 : GB := (.ro (Cs.putL (L [(.ifc 465 (.p 30 0))]) 0 (Cs.mk 1)))
noncomputable def ug112 : GB := (.ro (Cs.putL (L [(.ifc 465 (.p 33 0))]) 0 (Cs.mk 1)))
noncomputable def ug113 : GB := (.ro (Cs.putL (L [(.str [97, 114, 103, 117, 109, 101, 110, 116])]) 0 (Cs.mk 1)))
noncomputable def ug114 : GB := (.ro (Cs.putL (L [(.str [98, 121, 116, 101, 115])]) 0 (Cs.mk 1)))
noncomputable def ug115 : GB := (.ro (Cs.putL (L [(.str [98, 105, 103])]) 0 (Cs.mk 1)))
noncomputable def ug116 : GB := (.ro (Cs.putL (L [(.str [111, 98, 106, 101, 99, 116])]) 0 (Cs.mk 1)))
noncomputable def ug117 : GB := (.ro (Cs.putL (L [(.str [109, 101, 116, 104, 111, 100])]) 0 (Cs.mk 1)))
noncomputable def ug118 : GB := (.ro (Cs.putL (L [(.str [102, 111, 114, 109, 97, 116])]) 0 (Cs.mk 1)))
noncomputable def ug119 : GB := (.ro (Cs.putL (L [(.str [115, 116, 114, 105, 100, 101])]) 0 (Cs.mk 1)))
noncomputable def ug120 : GB := (.ro (Cs.putL (L [(.str [102, 105, 108, 101])]) 0 (Cs.mk 1)))
noncomputable def ug121 : GB := (.ro (Cs.putL (L [(.str [114, 111, 108, 101])]) 0 (Cs.mk 1)))
noncomputable def ug122 : GB := (.ro (Cs.putL (L [(.str [112, 108, 97, 99, 101])]) 0 (Cs.mk 1)))
noncomputable def ug123 : GB := (.ro (Cs.putL (L [(.str [115, 116, 97, 116, 101])]) 0 (Cs.mk 1)))
noncomputable def ug124 : GB := (.ro (Cs.putL (L [(.str [102, 117, 108, 108])]) 0 (Cs.mk 1)))
noncomputable def ug125 : GB := (.rw (Cs.putL (L [(n64 0), (n64 0), (n64 0), (n64 0)]) 0 (Cs.mk 4)))
noncomputable def ug126 : GB := (.rw (.c2 (.mk (.mk (n8 12) (n8 0) (n8 0) (n8 0) (n8 0) (n8 0) (n8 16) (n8 0) (n8 0) (n8 0) (n8 0) (n8 0) (n8 0) (n8 0) (n8 0) (n8 0)) (.mk (n8 11) (n8 0) (n8 0) (n8 0) (n8 0) (n8 0) (n8 12) (n8 0) (n8 1) (n8 0) (n8 0) (n8 0) (n8 22) (n8 0) (n8 0) (n8 0)) (.mk (n8 0) (n8 0) (n8 16) (n8 0) (n8 0) (n8 0) (n8 0) (n8 0) (n8 0) (n8 0) (n8 0) (n8 0) (n8 21) (n8 0) (n8 0) (n8 0)) (.mk (n8 0) (n8 0) (n8 12) (n8 0) (n8 2) (n8 0) (n8 0) (n8 0) (n8 13) (n8 0) (n8 0) (n8 0) (n8 0) (n8 0) (n8 8) (n8 0)) (.mk (n8 12) (n8 0) (n8 0) (n8 0) (n8 0) (n8 0) (n8 16) (n8 0) (n8 0) (n8 0) (n8 0) (n8 0) (n8 0) (n8 0) (n8 0) (n8 0)) (.mk (n8 11) (n8 0) (n8 0) (n8 0) (n8 0) (n8 0) (n8 12) (n8 0) (n8 3) (n8 0) (n8 0) (n8 0) .u .u .u .u) (F.all .u) (F.all .u) (F.all .u) (F.all .u) (F.all .u) (F.all .u) (F.all .u) (F.all .u) (F.all .u) (F.all .u))))
noncomputable def ug127 : GB := (.rw (.c2 (.mk (.mk (n8 10) (n8 0) (n8 0) (n8 0) (n8 1) (n8 0) (n8 20) (n8 0) (n8 13) (n8 0) (n8 0) (n8 0) (n8 0) (n8 0) (n8 0) (n8 0)) (.mk (n8 0) (n8 0) (n8 0) (n8 0) (n8 10) (n8 0) (n8 0) (n8 0) (n8 5) (n8 0) (n8 8) (n8 0) .u .u .u .u) (F.all .u) (F.all .u) (F.all .u) (F.all .u) (F.all .u) (F.all .u) (F.all .u) (F.all .u) (F.all .u) (F.all .u) (F.all .u) (F.all .u) (F.all .u) (F.all .u))))
noncomputable def ug128 : GB := (.rw (Cs.putL (L [(.s 7498 0 1 0 0 true), .ni]) 0 (Cs.mk 2)))
noncomputable def ug129 : GB := (.rw (Cs.putL (L [(n64 16384), (.s 8018 0 1 92 92 false), (.b false)]) 0 (Cs.mk 3)))
noncomputable def ug130 : GB := (.rw (Cs.putL (L [(.m 8296), (.m 48)]) 0 (Cs.mk 2)))
noncomputable def ug131 : GB := (.rw (Cs.putL (L [(.s 8596 0 1 0 1 true)]) 0 (Cs.mk 1)))
noncomputable def ug132 : GB := (.rw (Cs.putL (L [(.s 8143 20 1 0 0 true), .ni]) 0 (Cs.mk 2)))
noncomputable def ug133 : GB := (.rw (Cs.putL (L [(n64 16384), (.s 8581 0 1 120 120 false), (.b true)]) 0 (Cs.mk 3)))
noncomputable def ug134 : GB := (.rw (Cs.putL (L [(.p 79 0), (.p 80 0), (.s 2212 0 1 200 200 false), (.b false)]) 0 (Cs.mk 4)))
noncomputable def ug135 : GB := (.rw (.c2 (.mk (.mk (n8 12) (n8 0) (n8 0) (n8 0) (n8 0) (n8 0) (n8 16) (n8 0) (n8 0) (n8 0) (n8 0) (n8 0) (n8 0) (n8 0) (n8 0) (n8 0)) (.mk (n8 11) (n8 0) (n8 0) (n8 0) (n8 0) (n8 0) (n8 12) (n8 0) (n8 1) (n8 0) (n8 0) (n8 0) (n8 22) (n8 0) (n8 0) (n8 0)) (.mk (n8 0) (n8 0) (n8 16) (n8 0) (n8 0) (n8 0) (n8 0) (n8 0) (n8 0) (n8 0) (n8 0) (n8 0) (n8 21) (n8 0) (n8 0) (n8 0)) (.mk (n8 0) (n8 0) (n8 12) (n8 0) (n8 2) (n8 0) (n8 0) (n8 0) (n8 13) (n8 0) (n8 0) (n8 0) (n8 0) (n8 0) (n8 8) (n8 0)) (.mk (n8 12) (n8 0) (n8 0) (n8 0) (n8 0) (n8 0) (n8 16) (n8 0) (n8 0) (n8 0) (n8 0) (n8 0) (n8 0) (n8 0) (n8 0) (n8 0)) (.mk (n8 11) (n8 0) (n8 0) (n8 0) (n8 0) (n8 0) (n8 12) (n8 0) (n8 3) (n8 0) (n8 0) (n8 0) (n8 1) (n8 0) (n8 0) (n8 0)) (.mk (n8 0) (n8 0) (n8 28) (n8 0) (n8 10) (n8 0) (n8 0) (n8 0) (n8 8) (n8 0) (n8 0) (n8 0) (n8 6) (n8 0) (n8 0) (n8 0)) (.mk (n8 115) (n8 116) (n8 97) (n8 116) (n8 101) (n8 0) (n8 0) (n8 0) .u .u .u .u .u .u .u .u) (F.all .u) (F.all .u) (F.all .u) (F.all .u) (F.all .u) (F.all .u) (F.all .u) (F.all .u))))
/-- (*tableau/server.Server).feed -/
noncomputable def ue29a : AV := (L [(.p 54 0), (n64 1), (.s 8142 0 1 28 28 false)])
noncomputable def ue29u : BL := [(0, ug100), (1, ug0), (2, ug1), (3, ug2), (4, ug101), (5, ug102), (6, ug103), (7, ug104), (8, ug105), (9, ug106), (10, ug107), (11, ug108), (12, ug109), (13, ug110), (14, ug111), (16, ug112), (18, ug113), (19, ug3), (20, ug114), (21, ug115), (22, ug116), (23, ug117), (24, ug118), (25, ug119), (26, ug120), (27, ug121), (28, ug122), (29, ug123), (31, ug124), (40, ug4), (42, ug5), (45, ug29), (46, ug71), (52, ug125), (53, ug93), (54, ug6), (66, ug75), (73, ug76), (74, ug7), (78, ug8), (83, ug10), (2740, ug95), (4572, ug64), (4953, ug78), (7309, ug89), (7918, (.mp (L [(n64 2), (.b true)]))), (8018, ug126), (8142, ug127)]
noncomputable def ue29c : BL := [(38, (.mp (L [(n64 1), (.p 78 0)]))), (39, ug42), (41, ug46), (43, ug28), (44, ug70), (49, ug92), (50, ug86), (79, ug128), (80, ug129), (81, ug9), (2361, ug91)]
noncomputable def ue29l : BL := [(38, (.mp .nil)), (39, (.mp .nil)), (41, (.mp .nil)), (43, (.mp .nil)), (44, (.mp .nil)), (49, ug130), (50, ug131), (79, ug132), (80, ug133), (81, ug134), (2361, ug99), (8143, ug127), (8296, (.mp (L [(n64 2), (.b true)]))), (8581, ug135), (8596, ug25)]
noncomputable def ue29v : AV := (.tup .nil)
noncomputable def ue29 : Ent := .mk ue29a 8143 ue29u ue29c ue29v 8610 ue29l
/-- (*tableau/forest.Forest).Held -/
noncomputable def ue30a : AV := (L [(.p 40 0)])
noncomputable def ue30u : BL := [(39, ug42), (40, ug4), (2361, ug91), (4572, ug64)]
noncomputable def ue30c : BL := []
noncomputable def ue30l : BL := [(8286, ug83)]
noncomputable def ue30v : AV := (.s 8286 0 1 1 2 false)
noncomputable def ue30 : Ent := .mk ue30a 8282 ue30u ue30c ue30v 8287 ue30l
/-- (*tableau/forest.Forest).Held -/
noncomputable def ue31a : AV := (L [(.p 40 0)])
noncomputable def ue31u : BL := [(39, ug42), (40, ug4), (2361, ug99), (4572, ug64)]
noncomputable def ue31c : BL := []
noncomputable def ue31l : BL := [(8438, ug83)]
noncomputable def ue31v : AV := (.s 8438 0 1 1 2 false)
noncomputable def ue31 : Ent := .mk ue31a 8434 ue31u ue31c ue31v 8439 ue31l
noncomputable def ug136 : GB := (.rw (.c2 (.mk (.mk (n64 1010) (n64 0) (.b false) (.b false) (n64 0) .ns .ns (.b false) (.b false) .ns (.b false) .ns .ns (.b false) (n64 0) .ns) (.mk .ns (.b false) (.b false) .ns (.b false) .ns .ns (.b false) (n64 1) .ns .ns (.b false) (.b true) .ns (.b false) (.s 8751 0 1 1 1 false)) (.mk .ns .u .u .u .u .u .u .u .u .u .u .u .u .u .u .u) (F.all .u) (F.all .u) (F.all .u) (F.all .u) (F.all .u) (F.all .u) (F.all .u) (F.all .u) (F.all .u) (F.all .u) (F.all .u) (F.all .u) (F.all .u))))
/-- (*tableau/forest.Forest).Held -/
noncomputable def ue32a : AV := (L [(.p 40 0)])
noncomputable def ue32u : BL := [(39, ug42), (40, ug4), (2361, ug136), (4572, ug64)]
noncomputable def ue32c : BL := []
noncomputable def ue32l : BL := [(8795, ug65)]
noncomputable def ue32v : AV := (.s 8795 0 1 2 2 false)
noncomputable def ue32 : Ent := .mk ue32a 8791 ue32u ue32c ue32v 8796 ue32l
noncomputable def ug137 : GB := (.rw (Cs.putL (L [(.m 8439), (.m 48)]) 0 (Cs.mk 2)))
noncomputable def ug138 : GB := (.rw (Cs.putL (L [(.m 8796), (.m 48)]) 0 (Cs.mk 2)))
/-- (*tableau/uses.Uses).Now -/
noncomputable def ue33a : AV := (L [(.p 49 0), (.s 8795 0 1 2 2 false)])
noncomputable def ue33u : BL := [(8439, (.mp (L [(n64 2), (.b true)]))), (8795, ug65)]
noncomputable def ue33c : BL := [(49, ug137)]
noncomputable def ue33l : BL := [(49, ug138), (8796, ug68)]
noncomputable def ue33v : AV := .ns
noncomputable def ue33 : Ent := .mk ue33a 8796 ue33u ue33c ue33v 8800 ue33l
noncomputable def ug139 : GB := (.rw (.c2 (.mk (.mk (n8 11) (n8 0) (n8 0) (n8 0) (n8 2) (n8 0) (n8 12) (n8 0) (n8 3) (n8 0) (n8 0) (n8 0) (n8 10) (n8 0) (n8 0) (n8 0)) (.mk (n8 1) (n8 0) (n8 20) (n8 0) (n8 13) (n8 0) (n8 0) (n8 0) (n8 0) (n8 0) (n8 0) (n8 0) (n8 0) (n8 0) (n8 0) (n8 0)) (.mk (n8 10) (n8 0) (n8 0) (n8 0) (n8 5) (n8 0) (n8 8) (n8 0) .u .u .u .u .u .u .u .u) (F.all .u) (F.all .u) (F.all .u) (F.all .u) (F.all .u) (F.all .u) (F.all .u) (F.all .u) (F.all .u) (F.all .u) (F.all .u) (F.all .u) (F.all .u))))
noncomputable def ug140 : GB := (.rw (Cs.putL (L [(.s 8757 0 1 2 2 false)]) 0 (Cs.mk 1)))
noncomputable def ug141 : GB := (.mp (L [(n64 1010), (.agg (L [(n64 1010), (n64 6), (n64 4)])), (n64 1020), (.agg (L [(n64 1020), (n64 3), (n64 2)]))]))
noncomputable def ug142 : GB := (.rw (.c1 (.mk (n64 1) (.m 38) (.p 35 0) (.p 40 0) (.p 42 0) (.p 45 0) (.m 46) (n64 2) (.p 49 0) (.p 50 0) (.m 51) (n64 3) (.p 52 0) (n64 3) (n64 0) (n64 0))))
noncomputable def ug143 : GB := (.rw (Cs.putL (L [(.s 8155 32 1 0 0 true), .ni]) 0 (Cs.mk 2)))
noncomputable def ug144 : GB := (.rw (Cs.putL (L [(n64 4), (.s 8248 0 1 0 0 true)]) 0 (Cs.mk 2)))
noncomputable def ug145 : GB := (.rw (Cs.putL (L [(n64 1020), (n64 1010)]) 0 (Cs.mk 2)))
/-- (*tableau/server.Server).feed -/
noncomputable def ue34a : AV := (L [(.p 54 0), (n64 1), (.s 8154 0 1 40 40 false)])
noncomputable def ue34u : BL := [(1, ug0), (3, ug2), (19, ug3), (38, (.mp (L [(n64 1), (.p 78 0)]))), (39, ug42), (40, ug4), (41, ug46), (42, ug5), (54, ug6), (66, ug75), (73, ug76), (74, ug7), (78, ug8), (81, ug9), (83, ug10), (4572, ug64), (7309, ug89), (7858, ug25), (7879, ug98), (7918, (.mp (L [(n64 2), (.b true)]))), (8154, ug139)]
noncomputable def ue34c : BL := [(49, ug92), (50, ug86), (51, ug73), (53, ug93), (79, ug128), (2361, ug91), (2740, ug95)]
noncomputable def ue34l : BL := [(49, ug138), (50, ug140), (51, ug141), (53, ug142), (79, ug143), (2361, ug136), (2740, ug144), (8155, ug139), (8248, (.rw (.c1 (F.all .u)))), (8751, ug25), (8757, ug145), (8796, ug68)]
noncomputable def ue34v : AV := (.tup .nil)
noncomputable def ue34 : Ent := .mk ue34a 8155 ue34u ue34c ue34v 8800 ue34l
noncomputable def ug146 : GB := (.rw (.c2 (.mk (.mk (n64 1020) (n64 0) (.b false) (.b true) (n64 0) .ns .ns (.b false) (.b false) .ns (.b false) .ns .ns (.b false) (n64 0) .ns) (.mk .ns (.b false) (.b false) .ns (.b false) .ns .ns (.b false) (n64 2) .ns .ns (.b false) (.b true) .ns (.b false) (.s 6596 0 1 1 1 false)) (.mk .ns .u .u .u .u .u .u .u .u .u .u .u .u .u .u .u) (F.all .u) (F.all .u) (F.all .u) (F.all .u) (F.all .u) (F.all .u) (F.all .u) (F.all .u) (F.all .u) (F.all .u) (F.all .u) (F.all .u) (F.all .u))))
/-- (*tableau/forest.Forest).Held -/
noncomputable def ue35a : AV := (L [(.p 40 0)])
noncomputable def ue35u : BL := [(39, ug42), (40, ug4), (2361, ug39), (4572, ug146)]
noncomputable def ue35c : BL := []
noncomputable def ue35l : BL := [(6993, ug65)]
noncomputable def ue35v : AV := (.s 6993 0 1 2 2 false)
noncomputable def ue35 : Ent := .mk ue35a 6989 ue35u ue35c ue35v 6994 ue35l
noncomputable def ug147 : GB := (.rw (.c2 (.mk (.mk (n64 1020) (n64 0) (.b false) (.b false) (n64 0) .ns .ns (.b false) (.b false) .ns (.b false) .ns .ns (.b false) (n64 0) .ns) (.mk .ns (.b false) (.b false) .ns (.b false) .ns .ns (.b false) (n64 0) .ns .ns (.b false) (.b true) .ns (.b false) (.s 7306 0 1 1 1 false)) (.mk .ns .u .u .u .u .u .u .u .u .u .u .u .u .u .u .u) (F.all .u) (F.all .u) (F.all .u) (F.all .u) (F.all .u) (F.all .u) (F.all .u) (F.all .u) (F.all .u) (F.all .u) (F.all .u) (F.all .u) (F.all .u))))
/-- (*tableau/forest.Forest).Held -/
noncomputable def ue36a : AV := (L [(.p 40 0)])
noncomputable def ue36u : BL := [(39, ug42), (40, ug4), (2361, ug39), (4572, ug147)]
noncomputable def ue36c : BL := []
noncomputable def ue36l : BL := [(7348, ug44)]
noncomputable def ue36v : AV := (.s 7348 0 1 1 2 false)
noncomputable def ue36 : Ent := .mk ue36a 7344 ue36u ue36c ue36v 7349 ue36l
noncomputable def ug148 : GB := (.rw (.c2 (.mk (.mk (n8 20) (n8 0) (n8 0) (n8 0) (n8 1) (n8 0) (n8 20) (n8 0) (n8 0) (n8 0) (n8 0) (n8 0) (n8 0) (n8 0) (n8 0) (n8 0)) (.mk (n8 0) (n8 0) (n8 0) (n8 0) (n8 20) (n8 0) (n8 0) (n8 0) (n8 5) (n8 0) (n8 8) (n8 0) .u .u .u .u) (F.all .u) (F.all .u) (F.all .u) (F.all .u) (F.all .u) (F.all .u) (F.all .u) (F.all .u) (F.all .u) (F.all .u) (F.all .u) (F.all .u) (F.all .u) (F.all .u))))
noncomputable def ug149 : GB := (.rw (Cs.putL (L [(n64 1010), (n64 0)]) 0 (Cs.mk 2)))
noncomputable def ug150 : GB := (.rw (.c2 (.mk (.mk (n8 12) (n8 0) (n8 0) (n8 0) (n8 0) (n8 0) (n8 16) (n8 0) (n8 0) (n8 0) (n8 0) (n8 0) (n8 0) (n8 0) (n8 0) (n8 0)) (.mk (n8 11) (n8 0) (n8 0) (n8 0) (n8 0) (n8 0) (n8 12) (n8 0) (n8 1) (n8 0) (n8 0) (n8 0) (n8 22) (n8 0) (n8 0) (n8 0)) (.mk (n8 0) (n8 0) (n8 16) (n8 0) (n8 0) (n8 0) (n8 0) (n8 0) (n8 0) (n8 0) (n8 0) (n8 0) (n8 21) (n8 0) (n8 0) (n8 0)) (.mk (n8 0) (n8 0) (n8 12) (n8 0) (n8 2) (n8 0) (n8 0) (n8 0) (n8 23) (n8 0) (n8 0) (n8 0) (n8 0) (n8 0) (n8 8) (n8 0)) (F.all .u) (F.all .u) (F.all .u) (F.all .u) (F.all .u) (F.all .u) (F.all .u) (F.all .u) (F.all .u) (F.all .u) (F.all .u) (F.all .u))))
/-- (*tableau/server.Server).feed -/
noncomputable def ue37a : AV := (L [(.p 54 0), (n64 1), (.s 6841 0 1 28 28 false)])
noncomputable def ue37u : BL := [(1, ug0), (2, ug1), (3, ug2), (19, ug3), (38, (.mp (L [(n64 1), (.p 78 0)]))), (39, ug42), (40, ug4), (41, ug46), (42, ug5), (44, ug70), (45, ug29), (46, ug71), (53, ug74), (54, ug6), (66, ug75), (73, ug76), (74, ug7), (78, ug8), (81, ug9), (83, ug10), (2361, ug39), (5643, ug62), (6596, ug25), (6602, ug79), (6641, ug68), (6841, ug148)]
noncomputable def ue37c : BL := [(48, (.mp .nil)), (49, ug67), (50, ug72), (79, ug77), (80, ug61), (4572, ug64), (4953, ug78)]
noncomputable def ue37l : BL := [(48, (.mp (L [(n64 2), (n64 1)]))), (49, ug85), (50, ug86), (79, ug87), (80, ug88), (4572, ug147), (4953, ug50), (6842, ug148), (7306, ug25), (7309, ug149), (7349, (.mp (L [(n64 1), (.b true)]))), (7395, ug150)]
noncomputable def ue37v : AV := (.tup .nil)
noncomputable def ue37 : Ent := .mk ue37a 6842 ue37u ue37c ue37v 7396 ue37l
noncomputable def ug151 : GB := (.rw (.c2 (.mk (.mk (n64 1020) (n64 0) (.b false) (.b false) (n64 0) .ns .ns (.b false) (.b false) .ns (.b false) .ns .ns (.b false) (n64 0) .ns) (.mk .ns (.b false) (.b false) .ns (.b false) .ns .ns (.b false) (n64 0) .ns .ns (.b false) (.b true) .ns (.b false) (.s 7857 0 1 1 1 false)) (.mk .ns .u .u .u .u .u .u .u .u .u .u .u .u .u .u .u) (F.all .u) (F.all .u) (F.all .u) (F.all .u) (F.all .u) (F.all .u) (F.all .u) (F.all .u) (F.all .u) (F.all .u) (F.all .u) (F.all .u) (F.all .u))))
/-- (*tableau/forest.Forest).Held -/
noncomputable def ue38a : AV := (L [(.p 40 0)])
noncomputable def ue38u : BL := [(39, ug42), (40, ug4), (2361, ug39), (4572, ug151)]
noncomputable def ue38c : BL := []
noncomputable def ue38l : BL := [(7916, ug44)]
noncomputable def ue38v : AV := (.s 7916 0 1 1 2 false)
noncomputable def ue38 : Ent := .mk ue38a 7912 ue38u ue38c ue38v 7917 ue38l
noncomputable def ug152 : GB := (.rw (Cs.putL (L [(.m 7917), (.m 48)]) 0 (Cs.mk 2)))
noncomputable def ug153 : GB := (.rw (Cs.putL (L [(.p 74 0), (.m 66), (.m 67), (.p 76 0), (.p 77 0), (.s 7876 0 4 2 2 false)]) 0 (Cs.mk 6)))
noncomputable def ug154 : GB := (.rw (Cs.putL (L [(n64 2), (.s 7878 0 1 1 1 false)]) 0 (Cs.mk 2)))
noncomputable def ug155 : GB := (.rw (Cs.putL (L [(n64 17), (n64 22), (n64 0), (.s 7866 0 3 2 2 true), (n64 16), (n64 21), (n64 0), (.s 7874 0 3 1 1 true)]) 0 (Cs.mk 8)))
/-- (*tableau/desk.Desk).Handle -/
noncomputable def ue39a : AV := (L [(.p 53 0), (n64 1), (.agg (L [(n64 20), (n64 5), (.str [])]))])
noncomputable def ue39u : BL := [(1, ug0), (38, (.mp (L [(n64 1), (.p 78 0)]))), (39, ug42), (40, ug4), (41, ug46), (42, ug5), (66, ug75), (73, ug76), (74, ug7), (2361, ug39), (7306, ug25), (7349, (.mp (L [(n64 1), (.b true)])))]
noncomputable def ue39c : BL := [(49, ug85), (53, ug74), (78, ug8), (4572, ug147), (4953, ug50)]
noncomputable def ue39l : BL := [(49, ug152), (53, ug93), (78, ug153), (4572, ug151), (4953, ug154), (7857, ug25), (7866, ug55), (7874, ug96), (7876, ug155), (7878, ug98), (7917, (.mp (L [(n64 1), (.b true)])))]
noncomputable def ue39v : AV := .ni
noncomputable def ue39 : Ent := .mk ue39a 7501 ue39u ue39c ue39v 7921 ue39l
noncomputable def ug156 : GB := (.rw (.c2 (.mk (.mk (n64 1020) (n64 0) (.b false) (.b true) (n64 2) .ns .ns (.b false) (.b false) .ns (.b false) .ns .ns (.b false) (n64 0) .ns) (.mk .ns (.b false) (.b false) .ns (.b false) .ns .ns (.b false) (n64 0) .ns .ns (.b false) (.b true) .ns (.b false) (.s 7857 0 1 1 1 false)) (.mk .ns .u .u .u .u .u .u .u .u .u .u .u .u .u .u .u) (F.all .u) (F.all .u) (F.all .u) (F.all .u) (F.all .u) (F.all .u) (F.all .u) (F.all .u) (F.all .u) (F.all .u) (F.all .u) (F.all .u) (F.all .u))))
/-- (*tableau/forest.Forest).Held -/
noncomputable def ue40a : AV := (L [(.p 40 0)])
noncomputable def ue40u : BL := [(39, ug42), (40, ug4), (2361, ug39), (4572, ug156)]
noncomputable def ue40c : BL := []
noncomputable def ue40l : BL := [(8293, ug44)]
noncomputable def ue40v : AV := (.s 8293 0 1 1 2 false)
noncomputable def ue40 : Ent := .mk ue40a 8289 ue40u ue40c ue40v 8294 ue40l
noncomputable def ug157 : GB := (.rw (.c2 (.mk (.mk (n8 12) (n8 0) (n8 0) (n8 0) (n8 0) (n8 0) (n8 16) (n8 0) (n8 0) (n8 0) (n8 0) (n8 0) (n8 0) (n8 0) (n8 0) (n8 0)) (.mk (n8 11) (n8 0) (n8 0) (n8 0) (n8 0) (n8 0) (n8 12) (n8 0) (n8 1) (n8 0) (n8 0) (n8 0) (n8 22) (n8 0) (n8 0) (n8 0)) (.mk (n8 0) (n8 0) (n8 16) (n8 0) (n8 0) (n8 0) (n8 0) (n8 0) (n8 0) (n8 0) (n8 0) (n8 0) (n8 21) (n8 0) (n8 0) (n8 0)) (.mk (n8 0) (n8 0) (n8 12) (n8 0) (n8 2) (n8 0) (n8 0) (n8 0) (n8 23) (n8 0) (n8 0) (n8 0) (n8 0) (n8 0) (n8 8) (n8 0)) (.mk (n8 22) (n8 0) (n8 0) (n8 0) (n8 0) (n8 0) (n8 16) (n8 0) (n8 0) (n8 0) (n8 0) (n8 0) (n8 0) (n8 0) (n8 0) (n8 0)) (.mk (n8 21) (n8 0) (n8 0) (n8 0) (n8 0) (n8 0) (n8 12) (n8 0) (n8 3) (n8 0) (n8 0) (n8 0) .u .u .u .u) (F.all .u) (F.all .u) (F.all .u) (F.all .u) (F.all .u) (F.all .u) (F.all .u) (F.all .u) (F.all .u) (F.all .u))))
noncomputable def ug158 : GB := (.rw (.c2 (.mk (.mk (n8 20) (n8 0) (n8 0) (n8 0) (n8 1) (n8 0) (n8 20) (n8 0) (n8 23) (n8 0) (n8 0) (n8 0) (n8 0) (n8 0) (n8 0) (n8 0)) (.mk (n8 0) (n8 0) (n8 0) (n8 0) (n8 20) (n8 0) (n8 0) (n8 0) (n8 5) (n8 0) (n8 8) (n8 0) .u .u .u .u) (F.all .u) (F.all .u) (F.all .u) (F.all .u) (F.all .u) (F.all .u) (F.all .u) (F.all .u) (F.all .u) (F.all .u) (F.all .u) (F.all .u) (F.all .u) (F.all .u))))
noncomputable def ug159 : GB := (.rw (Cs.putL (L [(.s 7497 0 1 0 0 true), .ni]) 0 (Cs.mk 2)))
noncomputable def ug160 : GB := (.rw (Cs.putL (L [(n64 16384), (.s 8017 0 1 92 92 false), (.b false)]) 0 (Cs.mk 3)))
noncomputable def ug161 : GB := (.rw (Cs.putL (L [(.m 8294), (.m 48)]) 0 (Cs.mk 2)))
noncomputable def ug162 : GB := (.rw (Cs.putL (L [(.s 8593 0 1 0 0 true)]) 0 (Cs.mk 1)))
noncomputable def ug163 : GB := (.rw (Cs.putL (L [(.s 8141 20 1 0 0 true), .ni]) 0 (Cs.mk 2)))
noncomputable def ug164 : GB := (.rw (Cs.putL (L [(n64 16384), (.s 8579 0 1 120 120 false), (.b true)]) 0 (Cs.mk 3)))
noncomputable def ug165 : GB := (.rw (.c2 (.mk (.mk (n8 12) (n8 0) (n8 0) (n8 0) (n8 0) (n8 0) (n8 16) (n8 0) (n8 0) (n8 0) (n8 0) (n8 0) (n8 0) (n8 0) (n8 0) (n8 0)) (.mk (n8 11) (n8 0) (n8 0) (n8 0) (n8 0) (n8 0) (n8 12) (n8 0) (n8 1) (n8 0) (n8 0) (n8 0) (n8 22) (n8 0) (n8 0) (n8 0)) (.mk (n8 0) (n8 0) (n8 16) (n8 0) (n8 0) (n8 0) (n8 0) (n8 0) (n8 0) (n8 0) (n8 0) (n8 0) (n8 21) (n8 0) (n8 0) (n8 0)) (.mk (n8 0) (n8 0) (n8 12) (n8 0) (n8 2) (n8 0) (n8 0) (n8 0) (n8 23) (n8 0) (n8 0) (n8 0) (n8 0) (n8 0) (n8 8) (n8 0)) (.mk (n8 22) (n8 0) (n8 0) (n8 0) (n8 0) (n8 0) (n8 16) (n8 0) (n8 0) (n8 0) (n8 0) (n8 0) (n8 0) (n8 0) (n8 0) (n8 0)) (.mk (n8 21) (n8 0) (n8 0) (n8 0) (n8 0) (n8 0) (n8 12) (n8 0) (n8 3) (n8 0) (n8 0) (n8 0) (n8 1) (n8 0) (n8 0) (n8 0)) (.mk (n8 0) (n8 0) (n8 28) (n8 0) (n8 20) (n8 0) (n8 0) (n8 0) (n8 8) (n8 0) (n8 0) (n8 0) (n8 6) (n8 0) (n8 0) (n8 0)) (.mk (n8 115) (n8 116) (n8 97) (n8 116) (n8 101) (n8 0) (n8 0) (n8 0) .u .u .u .u .u .u .u .u) (F.all .u) (F.all .u) (F.all .u) (F.all .u) (F.all .u) (F.all .u) (F.all .u) (F.all .u))))
/-- (*tableau/server.Server).feed -/
noncomputable def ue41a : AV := (L [(.p 54 0), (n64 1), (.s 8140 0 1 28 28 false)])
noncomputable def ue41u : BL := [(0, ug100), (1, ug0), (2, ug1), (3, ug2), (4, ug101), (5, ug102), (6, ug103), (7, ug104), (8, ug105), (9, ug106), (10, ug107), (11, ug108), (12, ug109), (13, ug110), (14, ug111), (16, ug112), (18, ug113), (19, ug3), (20, ug114), (21, ug115), (22, ug116), (23, ug117), (24, ug118), (25, ug119), (26, ug120), (27, ug121), (28, ug122), (29, ug123), (31, ug124), (40, ug4), (42, ug5), (45, ug29), (46, ug71), (52, ug125), (53, ug93), (54, ug6), (66, ug75), (73, ug76), (74, ug7), (78, ug8), (83, ug10), (2361, ug39), (2740, ug40), (4953, ug154), (7309, ug149), (7917, (.mp (L [(n64 1), (.b true)]))), (8017, ug157), (8140, ug158)]
noncomputable def ue41c : BL := [(38, (.mp (L [(n64 1), (.p 78 0)]))), (39, ug42), (41, ug46), (43, ug28), (44, ug70), (49, ug152), (50, ug86), (79, ug159), (80, ug160), (81, ug9), (4572, ug151)]
noncomputable def ue41l : BL := [(38, (.mp .nil)), (39, (.mp .nil)), (41, (.mp .nil)), (43, (.mp .nil)), (44, (.mp .nil)), (49, ug161), (50, ug162), (79, ug163), (80, ug164), (81, ug134), (4572, ug156), (8141, ug158), (8294, (.mp (L [(n64 1), (.b true)]))), (8579, ug165), (8593, (.rw (.c1 (F.all .u))))]
noncomputable def ue41v : AV := (.tup .nil)
noncomputable def ue41 : Ent := .mk ue41a 8141 ue41u ue41c ue41v 8607 ue41l
/-- (*tableau/forest.Forest).Held -/
noncomputable def ue42a : AV := (L [(.p 40 0)])
noncomputable def ue42u : BL := [(39, ug42), (40, ug4), (2361, ug39), (4572, ug151)]
noncomputable def ue42c : BL := []
noncomputable def ue42l : BL := [(8284, ug44)]
noncomputable def ue42v : AV := (.s 8284 0 1 1 2 false)
noncomputable def ue42 : Ent := .mk ue42a 8280 ue42u ue42c ue42v 8285 ue42l
/-- (*tableau/forest.Forest).Held -/
noncomputable def ue43a : AV := (L [(.p 40 0)])
noncomputable def ue43u : BL := [(39, ug42), (40, ug4), (2361, ug39), (4572, ug156)]
noncomputable def ue43c : BL := []
noncomputable def ue43l : BL := [(8436, ug44)]
noncomputable def ue43v : AV := (.s 8436 0 1 1 2 false)
noncomputable def ue43 : Ent := .mk ue43a 8432 ue43u ue43c ue43v 8437 ue43l
noncomputable def ug166 : GB := (.rw (.c2 (.mk (.mk (n64 1020) (n64 0) (.b false) (.b false) (n64 0) .ns .ns (.b false) (.b false) .ns (.b false) .ns .ns (.b false) (n64 0) .ns) (.mk .ns (.b false) (.b false) .ns (.b false) .ns .ns (.b false) (n64 2) .ns .ns (.b false) (.b true) .ns (.b false) (.s 8749 0 1 1 1 false)) (.mk .ns .u .u .u .u .u .u .u .u .u .u .u .u .u .u .u) (F.all .u) (F.all .u) (F.all .u) (F.all .u) (F.all .u) (F.all .u) (F.all .u) (F.all .u) (F.all .u) (F.all .u) (F.all .u) (F.all .u) (F.all .u))))
/-- (*tableau/forest.Forest).Held -/
noncomputable def ue44a : AV := (L [(.p 40 0)])
noncomputable def ue44u : BL := [(39, ug42), (40, ug4), (2361, ug39), (4572, ug166)]
noncomputable def ue44c : BL := []
noncomputable def ue44l : BL := [(8793, ug65)]
noncomputable def ue44v : AV := (.s 8793 0 1 2 2 false)
noncomputable def ue44 : Ent := .mk ue44a 8789 ue44u ue44c ue44v 8794 ue44l
noncomputable def ug167 : GB := (.rw (Cs.putL (L [(.m 8437), (.m 48)]) 0 (Cs.mk 2)))
noncomputable def ug168 : GB := (.rw (Cs.putL (L [(.m 8794), (.m 48)]) 0 (Cs.mk 2)))
/-- (*tableau/uses.Uses).Now -/
noncomputable def ue45a : AV := (L [(.p 49 0), (.s 8793 0 1 2 2 false)])
noncomputable def ue45u : BL := [(8437, (.mp (L [(n64 1), (.b true)]))), (8793, ug65)]
noncomputable def ue45c : BL := [(49, ug167)]
noncomputable def ue45l : BL := [(49, ug168), (8794, ug68)]
noncomputable def ue45v : AV := .ns
noncomputable def ue45 : Ent := .mk ue45a 8794 ue45u ue45c ue45v 8798 ue45l
noncomputable def ug169 : GB := (.rw (.c2 (.mk (.mk (n8 21) (n8 0) (n8 0) (n8 0) (n8 2) (n8 0) (n8 12) (n8 0) (n8 3) (n8 0) (n8 0) (n8 0) (n8 20) (n8 0) (n8 0) (n8 0)) (.mk (n8 1) (n8 0) (n8 20) (n8 0) (n8 23) (n8 0) (n8 0) (n8 0) (n8 0) (n8 0) (n8 0) (n8 0) (n8 0) (n8 0) (n8 0) (n8 0)) (.mk (n8 20) (n8 0) (n8 0) (n8 0) (n8 5) (n8 0) (n8 8) (n8 0) .u .u .u .u .u .u .u .u) (F.all .u) (F.all .u) (F.all .u) (F.all .u) (F.all .u) (F.all .u) (F.all .u) (F.all .u) (F.all .u) (F.all .u) (F.all .u) (F.all .u) (F.all .u))))
noncomputable def ug170 : GB := (.rw (Cs.putL (L [(.s 8755 0 1 2 2 false)]) 0 (Cs.mk 1)))
noncomputable def ug171 : GB := (.mp (L [(n64 1010), (.agg (L [(n64 1010), (n64 0), (n64 0)])), (n64 1020), (.agg (L [(n64 1020), (n64 6), (n64 4)]))]))
noncomputable def ug172 : GB := (.rw (Cs.putL (L [(.s 8153 32 1 0 0 true), .ni]) 0 (Cs.mk 2)))
noncomputable def ug173 : GB := (.rw (Cs.putL (L [(n64 4), (.s 8246 0 1 0 0 true)]) 0 (Cs.mk 2)))
/-- (*tableau/server.Server).feed -/
noncomputable def ue46a : AV := (L [(.p 54 0), (n64 1), (.s 8152 0 1 40 40 false)])
noncomputable def ue46u : BL := [(1, ug0), (3, ug2), (19, ug3), (38, (.mp (L [(n64 1), (.p 78 0)]))), (39, ug42), (40, ug4), (41, ug46), (42, ug5), (54, ug6), (66, ug75), (73, ug76), (74, ug7), (78, ug8), (81, ug9), (83, ug10), (2361, ug39), (7309, ug149), (7857, ug25), (7878, ug98), (7917, (.mp (L [(n64 1), (.b true)]))), (8152, ug169)]
noncomputable def ue46c : BL := [(49, ug152), (50, ug86), (51, ug73), (53, ug93), (79, ug159), (4572, ug151), (4953, ug154)]
noncomputable def ue46l : BL := [(49, ug168), (50, ug170), (51, ug171), (53, ug142), (79, ug172), (4572, ug166), (4953, ug173), (8153, ug169), (8246, (.rw (.c1 (F.all .u)))), (8749, ug25), (8755, ug79), (8794, ug68)]
noncomputable def ue46v : AV := (.tup .nil)
noncomputable def ue46 : Ent := .mk ue46a 8153 ue46u ue46c ue46v 8798 ue46l
end Go.Proofs.YtenpbpgoglepfaaGreatDoor
namespace Go.Proofs.YtenpbpgoglepfaaGreatDoor
open Go.RowKit
set_option linter.unusedVariables false
set_option maxRecDepth 100000
noncomputable def wg0 : GB := (.rw (Cs.putL (L [(n64 24), (n64 16), (.s 34 0 1 384 384 true)]) 0 (Cs.mk 3)))
noncomputable def wg1 : GB := (.rw (Cs.putL (L [(n64 0), (n64 0), (n64 24), (n64 16)]) 0 (Cs.mk 4)))
noncomputable def wg2 : GB := (.rw (Cs.putL (L [(n32 4279246896)]) 0 (Cs.mk 1)))
noncomputable def wg3 : GB := (.rw (.c3 (.mk (F.all (F.all (n32 0))) (.mk (F.all (n32 0)) (F.all (n32 0)) (F.all (n32 0)) (F.all (n32 0)) (F.all (n32 0)) (F.all (n32 0)) (F.all (n32 0)) (F.all (n32 0)) (F.all .u) (F.all .u) (F.all .u) (F.all .u) (F.all .u) (F.all .u) (F.all .u) (F.all .u)) (F.all (F.all .u)) (F.all (F.all .u)) (F.all (F.all .u)) (F.all (F.all .u)) (F.all (F.all .u)) (F.all (F.all .u)) (F.all (F.all .u)) (F.all (F.all .u)) (F.all (F.all .u)) (F.all (F.all .u)) (F.all (F.all .u)) (F.all (F.all .u)) (F.all (F.all .u)) (F.all (F.all .u)))))
noncomputable def wg4 : GB := (.rw (.c3 (.mk (F.all (F.all (n32 4279246896))) (.mk (F.all (n32 4279246896)) (F.all (n32 4279246896)) (F.all (n32 4279246896)) (F.all (n32 4279246896)) (F.all (n32 4279246896)) (F.all (n32 4279246896)) (F.all (n32 4279246896)) (F.all (n32 4279246896)) (F.all .u) (F.all .u) (F.all .u) (F.all .u) (F.all .u) (F.all .u) (F.all .u) (F.all .u)) (F.all (F.all .u)) (F.all (F.all .u)) (F.all (F.all .u)) (F.all (F.all .u)) (F.all (F.all .u)) (F.all (F.all .u)) (F.all (F.all .u)) (F.all (F.all .u)) (F.all (F.all .u)) (F.all (F.all .u)) (F.all (F.all .u)) (F.all (F.all .u)) (F.all (F.all .u)) (F.all (F.all .u)))))
/-- (*tableau/canvas.Canvas).each -/
noncomputable def we0a : AV := (L [(.p 35 0), (.s 36 0 4 1 1 true), (.f 132 .nil (L [(.p 37 0)]))])
noncomputable def we0u : BL := [(35, wg0), (36, wg1), (37, wg2)]
noncomputable def we0c : BL := [(34, wg3)]
noncomputable def we0l : BL := [(34, wg4)]
noncomputable def we0v : AV := (.tup .nil)
noncomputable def we0 : Ent := .lo we0a 38 we0u we0c we0v we0l
noncomputable def wg5 : GB := (.ro (Cs.putL (L [(.ifc 465 (.p 18 0))]) 0 (Cs.mk 1)))
noncomputable def wg6 : GB := (.ro (Cs.putL (L [(.ifc 465 (.p 31 0))]) 0 (Cs.mk 1)))
noncomputable def wg7 : GB := (.ro (Cs.putL (L [(.ifc 465 (.p 19 0))]) 0 (Cs.mk 1)))
noncomputable def wg8 : GB := (.ro (Cs.putL (L [(.str [115, 104, 111, 114, 116])]) 0 (Cs.mk 1)))
noncomputable def wg9 : GB := (.rw (Cs.putL (L [(.m 39)]) 0 (Cs.mk 1)))
noncomputable def wg10 : GB := (.rw (Cs.putL (L [(.m 43), (.m 44)]) 0 (Cs.mk 2)))
noncomputable def wg11 : GB := (.rw (.c1 (.mk (n64 1) (.m 38) (.p 35 0) (.p 40 0) (.p 42 0) (.p 45 0) (.m 46) (n64 0) (.p 49 0) (.p 50 0) (.m 51) (n64 0) (.p 52 0) (n64 0) (n64 0) (n64 0))))
noncomputable def wg12 : GB := (.rw (Cs.putL (L [(.p 53 0), (n64 16384), (.s 83 0 1 1 1 false)]) 0 (Cs.mk 3)))
noncomputable def wg13 : GB := (.rw (Cs.putL (L [(.m 73)]) 0 (Cs.mk 1)))
noncomputable def wg14 : GB := (.mp (L [(n64 1), (.s 86 0 1 4096 4096 true)]))
noncomputable def wg15 : GB := (.rw (Cs.putL (L [(.m 75)]) 0 (Cs.mk 1)))
noncomputable def wg16 : GB := (.rw (Cs.putL (L [(.p 74 0), (.m 66), (.m 67), (.p 76 0), (.p 77 0), .ns]) 0 (Cs.mk 6)))
noncomputable def wg17 : GB := (.rw (Cs.putL (L [(.p 79 0), (.p 80 0), .ns, (.b true)]) 0 (Cs.mk 4)))
noncomputable def wg18 : GB := (.rw (Cs.putL (L [(.p 81 0)]) 0 (Cs.mk 1)))
noncomputable def wg19 : GB := (.rw (.c2 (.mk (.mk (n8 1) (n8 0) (n8 0) (n8 0) (n8 1) (n8 0) (n8 12) (n8 0) (n8 2) (n8 0) (n8 0) (n8 0) (n8 2) (n8 0) (n8 0) (n8 0)) (.mk (n8 0) (n8 0) (n8 40) (n8 0) (n8 1) (n8 0) (n8 0) (n8 0) (n8 14) (n8 0) (n8 0) (n8 0) (n8 119) (n8 108) (n8 95) (n8 99)) (.mk (n8 111) (n8 109) (n8 112) (n8 111) (n8 115) (n8 105) (n8 116) (n8 111) (n8 114) (n8 0) (n8 0) (n8 0) (n8 1) (n8 0) (n8 0) (n8 0)) (.mk (n8 3) (n8 0) (n8 0) (n8 0) (n8 2) (n8 0) (n8 0) (n8 0) (n8 0) (n8 0) (n8 32) (n8 0) (n8 2) (n8 0) (n8 0) (n8 0)) (.mk (n8 7) (n8 0) (n8 0) (n8 0) (n8 119) (n8 108) (n8 95) (n8 115) (n8 104) (n8 109) (n8 0) (n8 0) (n8 1) (n8 0) (n8 0) (n8 0)) (.mk (n8 4) (n8 0) (n8 0) (n8 0) (n8 2) (n8 0) (n8 0) (n8 0) (n8 0) (n8 0) (n8 44) (n8 0) (n8 3) (n8 0) (n8 0) (n8 0)) (.mk (n8 17) (n8 0) (n8 0) (n8 0) (n8 119) (n8 108) (n8 95) (n8 115) (n8 117) (n8 98) (n8 99) (n8 111) (n8 109) (n8 112) (n8 111) (n8 115)) (.mk (n8 105) (n8 116) (n8 111) (n8 114) (n8 0) (n8 0) (n8 0) (n8 0) (n8 1) (n8 0) (n8 0) (n8 0) (n8 5) (n8 0) (n8 0) (n8 0)) (.mk (n8 2) (n8 0) (n8 0) (n8 0) (n8 0) (n8 0) (n8 32) (n8 0) (n8 4) (n8 0) (n8 0) (n8 0) (n8 8) (n8 0) (n8 0) (n8 0)) (.mk (n8 119) (n8 108) (n8 95) (n8 115) (n8 101) (n8 97) (n8 116) (n8 0) (n8 1) (n8 0) (n8 0) (n8 0) (n8 6) (n8 0) (n8 0) (n8 0)) (.mk (n8 2) (n8 0) (n8 0) (n8 0) (n8 0) (n8 0) (n8 36) (n8 0) (n8 5) (n8 0) (n8 0) (n8 0) (n8 12) (n8 0) (n8 0) (n8 0)) (.mk (n8 120) (n8 100) (n8 103) (n8 95) (n8 119) (n8 109) (n8 95) (n8 98) (n8 97) (n8 115) (n8 101) (n8 0) (n8 1) (n8 0) (n8 0) (n8 0)) (.mk (n8 7) (n8 0) (n8 0) (n8 0) (n8 4) (n8 0) (n8 0) (n8 0) (n8 0) (n8 0) (n8 20) (n8 0) (n8 8) (n8 0) (n8 0) (n8 0)) (.mk (n8 1) (n8 0) (n8 0) (n8 0) (n8 0) (n8 16) (n8 0) (n8 0) .u .u .u .u .u .u .u .u) (F.all .u) (F.all .u))))
noncomputable def wg20 : GB := (.rw (Cs.putL (L [(.m 47), (.m 48)]) 0 (Cs.mk 2)))
noncomputable def wg21 : GB := (.mp (L [(n64 1), (.agg (L [(n64 1), (n64 1)]))]))
noncomputable def wg22 : GB := (.rw (Cs.putL (L [.ns, .ni]) 0 (Cs.mk 2)))
noncomputable def wg23 : GB := (.rw (Cs.putL (L [(n64 16384), .ns, (.b false)]) 0 (Cs.mk 3)))
noncomputable def wg24 : GB := (.mp (L [(n64 1008), (.agg (L [(n64 1), (n64 4096)]))]))
noncomputable def wg25 : GB := (.rw (Cs.putL (L [(.m 2206), (.m 48)]) 0 (Cs.mk 2)))
noncomputable def wg26 : GB := (.mp (L [(n64 1), (.agg (L [(n64 1), (n64 1)])), (n64 2), (.agg (L [(n64 2), (n64 1)])), (n64 3), (.agg (L [(n64 4), (n64 1)])), (n64 4), (.agg (L [(n64 5), (n64 1)])), (n64 5), (.agg (L [(n64 10), (n64 1)])), (n64 6), (.agg (L [(n64 12), (n64 1)])), (n64 7), (.agg (L [(n64 15), (n64 1)])), (n64 8), (.agg (L [(n64 6), (n64 1)]))]))
noncomputable def wg27 : GB := (.rw (Cs.putL (L [(.s 277 196 1 0 0 true), .ni]) 0 (Cs.mk 2)))
noncomputable def wg28 : GB := (.rw (Cs.putL (L [(n64 16384), (.s 1859 0 1 200 200 false), (.b false)]) 0 (Cs.mk 3)))
noncomputable def wg29 : GB := (.rw (.c2 (.mk (.mk (n8 2) (n8 0) (n8 0) (n8 0) (n8 0) (n8 0) (n8 36) (n8 0) (n8 1) (n8 0) (n8 0) (n8 0) (n8 14) (n8 0) (n8 0) (n8 0)) (.mk (n8 119) (n8 108) (n8 95) (n8 99) (n8 111) (n8 109) (n8 112) (n8 111) (n8 115) (n8 105) (n8 116) (n8 111) (n8 114) (n8 0) (n8 0) (n8 0)) (.mk (n8 4) (n8 0) (n8 0) (n8 0) (n8 2) (n8 0) (n8 0) (n8 0) (n8 0) (n8 0) (n8 28) (n8 0) (n8 2) (n8 0) (n8 0) (n8 0)) (.mk (n8 7) (n8 0) (n8 0) (n8 0) (n8 119) (n8 108) (n8 95) (n8 115) (n8 104) (n8 109) (n8 0) (n8 0) (n8 1) (n8 0) (n8 0) (n8 0)) (.mk (n8 2) (n8 0) (n8 0) (n8 0) (n8 0) (n8 0) (n8 40) (n8 0) (n8 3) (n8 0) (n8 0) (n8 0) (n8 17) (n8 0) (n8 0) (n8 0)) (.mk (n8 119) (n8 108) (n8 95) (n8 115) (n8 117) (n8 98) (n8 99) (n8 111) (n8 109) (n8 112) (n8 111) (n8 115) (n8 105) (n8 116) (n8 111) (n8 114)) (.mk (n8 0) (n8 0) (n8 0) (n8 0) (n8 1) (n8 0) (n8 0) (n8 0) (n8 2) (n8 0) (n8 0) (n8 0) (n8 0) (n8 0) (n8 28) (n8 0)) (.mk (n8 4) (n8 0) (n8 0) (n8 0) (n8 8) (n8 0) (n8 0) (n8 0) (n8 119) (n8 108) (n8 95) (n8 115) (n8 101) (n8 97) (n8 116) (n8 0)) (.mk (n8 5) (n8 0) (n8 0) (n8 0) (n8 2) (n8 0) (n8 0) (n8 0) (n8 0) (n8 0) (n8 32) (n8 0) (n8 5) (n8 0) (n8 0) (n8 0)) (.mk (n8 12) (n8 0) (n8 0) (n8 0) (n8 120) (n8 100) (n8 103) (n8 95) (n8 119) (n8 109) (n8 95) (n8 98) (n8 97) (n8 115) (n8 101) (n8 0)) (.mk (n8 1) (n8 0) (n8 0) (n8 0) (n8 4) (n8 0) (n8 0) (n8 0) (n8 0) (n8 0) (n8 12) (n8 0) (n8 0) (n8 0) (n8 0) (n8 0)) (.mk (n8 4) (n8 0) (n8 0) (n8 0) (n8 0) (n8 0) (n8 12) (n8 0) (n8 1) (n8 0) (n8 0) (n8 0) (n8 6) (n8 0) (n8 0) (n8 0)) (.mk (n8 0) (n8 0) (n8 12) (n8 0) (n8 3) (n8 0) (n8 0) (n8 0) .u .u .u .u .u .u .u .u) (F.all .u) (F.all .u) (F.all .u))))
/-- (*tableau/server.Server).feed -/
noncomputable def we1a : AV := (L [(.p 54 0), (n64 1), (.s 276 0 1 216 216 false)])
noncomputable def we1u : BL := [(1, wg5), (2, wg6), (3, wg7), (19, wg8), (38, (.mp (L [(n64 1), (.p 78 0)]))), (39, (.mp .nil)), (40, wg9), (45, wg10), (47, (.mp .nil)), (53, wg11), (54, wg12), (74, wg13), (75, wg14), (76, wg15), (78, wg16), (81, wg17), (83, wg18), (276, wg19)]
noncomputable def we1c : BL := [(43, (.mp .nil)), (49, wg20), (66, (.mp .nil)), (73, wg21), (79, wg22), (80, wg23)]
noncomputable def we1l : BL := [(43, wg24), (49, wg25), (66, (.mp (L [(n64 8), (n64 1)]))), (73, wg26), (79, wg27), (80, wg28), (277, wg19), (1859, wg29), (2206, (.mp .nil))]
noncomputable def we1v : AV := (.tup .nil)
noncomputable def we1 : Ent := .mk we1a 277 we1u we1c we1v 2210 we1l
noncomputable def wg30 : GB := (.rw (Cs.putL (L [(.m 41)]) 0 (Cs.mk 1)))
noncomputable def wg31 : GB := (.rw (Cs.putL (L [(n64 0), (n64 0), (n64 0), (n64 0)]) 0 (Cs.mk 4)))
noncomputable def wg32 : GB := (.rw (Cs.putL (L [(n64 16384), (.s 1859 0 1 0 0 false), (.b false)]) 0 (Cs.mk 3)))
noncomputable def wg33 : GB := (.rw (Cs.putL (L [(.p 79 0), (.p 80 0), (.s 2212 0 1 200 200 false), (.b true)]) 0 (Cs.mk 4)))
noncomputable def wg34 : GB := (.rw (.c3 (F.all (F.all (F.all (n8 0))))))
/-- tableau/tableautop.bound -/
noncomputable def we2a : AV := (L [(n64 1)])
noncomputable def we2u : BL := [(1, wg5), (2, wg6), (3, wg7), (19, wg8)]
noncomputable def we2c : BL := []
noncomputable def we2l : BL := [(34, wg4), (35, wg0), (38, (.mp (L [(n64 1), (.p 78 0)]))), (39, (.mp .nil)), (40, wg9), (41, (.mp .nil)), (42, wg30), (43, wg24), (44, (.mp .nil)), (45, wg10), (46, (.mp .nil)), (48, (.mp .nil)), (49, wg25), (50, (.rw (Cs.putL (L [.ns]) 0 (Cs.mk 1)))), (51, (.mp .nil)), (52, wg31), (53, wg11), (54, wg12), (66, (.mp (L [(n64 8), (n64 1)]))), (67, (.mp .nil)), (73, wg26), (74, wg13), (75, wg14), (76, wg15), (77, (.rw (Cs.putL (L [.np]) 0 (Cs.mk 1)))), (78, wg16), (79, wg27), (80, wg32), (81, wg33), (83, wg18), (86, wg34), (277, wg19), (1859, wg29), (2206, (.mp .nil)), (2212, wg29)]
noncomputable def we2v : AV := (.p 54 0)
noncomputable def we2 : Ent := .mk we2a 34 we2u we2c we2v 2213 we2l
noncomputable def wg35 : GB := (.rw (.c2 (.mk (.mk (n8 3) (n8 0) (n8 0) (n8 0) (n8 0) (n8 0) (n8 12) (n8 0) (n8 10) (n8 0) (n8 0) (n8 0) (n8 7) (n8 0) (n8 0) (n8 0)) (.mk (n8 1) (n8 0) (n8 16) (n8 0) (n8 11) (n8 0) (n8 0) (n8 0) (n8 10) (n8 0) (n8 0) (n8 0) (n8 11) (n8 0) (n8 0) (n8 0)) (.mk (n8 1) (n8 0) (n8 12) (n8 0) (n8 12) (n8 0) (n8 0) (n8 0) (n8 10) (n8 0) (n8 0) (n8 0) (n8 5) (n8 0) (n8 8) (n8 0)) (F.all .u) (F.all .u) (F.all .u) (F.all .u) (F.all .u) (F.all .u) (F.all .u) (F.all .u) (F.all .u) (F.all .u) (F.all .u) (F.all .u) (F.all .u))))
noncomputable def wg36 : GB := (.rw (Cs.putL (L [(.m 3335), (.m 48)]) 0 (Cs.mk 2)))
noncomputable def wg37 : GB := (.rw (.c1 (.mk (n64 1) (.m 38) (.p 35 0) (.p 40 0) (.p 42 0) (.p 45 0) (.m 46) (n64 0) (.p 49 0) (.p 50 0) (.m 51) (n64 0) (.p 52 0) (n64 1) (n64 0) (n64 0))))
noncomputable def wg38 : GB := (.mp (L [(n64 8), (n64 1), (n64 11), (n64 1010), (n64 12), (n64 1010)]))
noncomputable def wg39 : GB := (.mp (L [(n64 1), (.agg (L [(n64 1), (n64 1)])), (n64 2), (.agg (L [(n64 2), (n64 1)])), (n64 3), (.agg (L [(n64 4), (n64 1)])), (n64 4), (.agg (L [(n64 5), (n64 1)])), (n64 5), (.agg (L [(n64 10), (n64 1)])), (n64 6), (.agg (L [(n64 12), (n64 1)])), (n64 7), (.agg (L [(n64 15), (n64 1)])), (n64 8), (.agg (L [(n64 6), (n64 1)])), (n64 10), (.agg (L [(n64 8), (n64 1)])), (n64 11), (.agg (L [(n64 16), (n64 1)])), (n64 12), (.agg (L [(n64 17), (n64 1)]))]))
noncomputable def wg40 : GB := (.rw (Cs.putL (L [(.s 2273 40 1 0 0 true), .ni]) 0 (Cs.mk 2)))
noncomputable def wg41 : GB := (.rw (Cs.putL (L [(n64 16384), (.s 3435 0 1 28 28 false), (.b false)]) 0 (Cs.mk 3)))
noncomputable def wg42 : GB := (.rw (.c2 (.mk (.mk (n64 1010) (n64 0) (.b false) (.b false) (n64 0) .ns .ns (.b false) (.b false) .ns (.b false) .ns .ns (.b false) (n64 0) .ns) (.mk .ns (.b false) (.b false) .ns (.b false) .ns .ns (.b false) (n64 0) .ns .ns (.b false) (.b true) .ns (.b false) (.s 3277 0 1 1 1 false)) (.mk .ns .u .u .u .u .u .u .u .u .u .u .u .u .u .u .u) (F.all .u) (F.all .u) (F.all .u) (F.all .u) (F.all .u) (F.all .u) (F.all .u) (F.all .u) (F.all .u) (F.all .u) (F.all .u) (F.all .u) (F.all .u))))
noncomputable def wg43 : GB := (.rw (Cs.putL (L [(n64 2), (.s 3298 0 1 1 1 false)]) 0 (Cs.mk 2)))
noncomputable def wg44 : GB := (.rw (Cs.putL (L [(n64 0)]) 0 (Cs.mk 1)))
noncomputable def wg45 : GB := (.rw (Cs.putL (L [(n64 1)]) 0 (Cs.mk 1)))
noncomputable def wg46 : GB := (.rw (.c2 (.mk (.mk (n8 12) (n8 0) (n8 0) (n8 0) (n8 0) (n8 0) (n8 16) (n8 0) (n8 0) (n8 0) (n8 0) (n8 0) (n8 0) (n8 0) (n8 0) (n8 0)) (.mk (n8 11) (n8 0) (n8 0) (n8 0) (n8 0) (n8 0) (n8 12) (n8 0) (n8 1) (n8 0) (n8 0) (n8 0) .u .u .u .u) (F.all .u) (F.all .u) (F.all .u) (F.all .u) (F.all .u) (F.all .u) (F.all .u) (F.all .u) (F.all .u) (F.all .u) (F.all .u) (F.all .u) (F.all .u) (F.all .u))))
/-- (*tableau/server.Server).feed -/
noncomputable def we3a : AV := (L [(.p 54 0), (n64 1), (.s 2272 0 1 48 48 false)])
noncomputable def we3u : BL := [(1, wg5), (2, wg6), (3, wg7), (19, wg8), (38, (.mp (L [(n64 1), (.p 78 0)]))), (40, wg9), (42, wg30), (54, wg12), (74, wg13), (78, wg16), (81, wg33), (83, wg18), (2206, (.mp .nil)), (2272, wg35)]
noncomputable def we3c : BL := [(39, (.mp .nil)), (41, (.mp .nil)), (49, wg25), (53, wg11), (66, (.mp (L [(n64 8), (n64 1)]))), (73, wg26), (79, wg27), (80, wg32)]
noncomputable def we3l : BL := [(39, (.mp (L [(n64 1010), (.p 2372 0)]))), (41, (.mp (L [(n64 1010), (.p 2751 0)]))), (49, wg36), (53, wg37), (66, wg38), (73, wg39), (79, wg40), (80, wg41), (2273, wg35), (2372, wg42), (2751, wg43), (3277, wg44), (3298, wg45), (3335, (.mp .nil)), (3435, wg46)]
noncomputable def we3v : AV := (.tup .nil)
noncomputable def we3 : Ent := .mk we3a 2273 we3u we3c we3v 3436 we3l
noncomputable def wg47 : GB := (.rw (.c2 (.mk (.mk (n8 11) (n8 0) (n8 0) (n8 0) (n8 2) (n8 0) (n8 12) (n8 0) (n8 1) (n8 0) (n8 0) (n8 0) (n8 8) (n8 0) (n8 0) (n8 0)) (.mk (n8 0) (n8 0) (n8 32) (n8 0) (n8 13) (n8 0) (n8 0) (n8 0) (n8 0) (n8 0) (n8 0) (n8 0) (n8 2) (n8 0) (n8 0) (n8 0)) (.mk (n8 2) (n8 0) (n8 0) (n8 0) (n8 8) (n8 0) (n8 0) (n8 0) (n8 0) (n8 0) (n8 0) (n8 0) (n8 10) (n8 0) (n8 0) (n8 0)) (.mk (n8 1) (n8 0) (n8 20) (n8 0) (n8 13) (n8 0) (n8 0) (n8 0) (n8 0) (n8 0) (n8 0) (n8 0) (n8 0) (n8 0) (n8 0) (n8 0)) (.mk (n8 10) (n8 0) (n8 0) (n8 0) (n8 5) (n8 0) (n8 8) (n8 0) .u .u .u .u .u .u .u .u) (F.all .u) (F.all .u) (F.all .u) (F.all .u) (F.all .u) (F.all .u) (F.all .u) (F.all .u) (F.all .u) (F.all .u) (F.all .u))))
noncomputable def wg48 : GB := (.mp (L [(n64 1), (.agg (L [(n64 1), (n64 0), (n64 2), (n64 2), (n64 8), (n64 0), (.b true)]))]))
noncomputable def wg49 : GB := (.rw (Cs.putL (L [(.m 4343), (.m 48)]) 0 (Cs.mk 2)))
noncomputable def wg50 : GB := (.rw (Cs.putL (L [(.s 4306 0 1 1 1 false)]) 0 (Cs.mk 1)))
noncomputable def wg51 : GB := (.mp (L [(n64 1010), (.agg (L [(n64 1010), (n64 0), (n64 0)]))]))
noncomputable def wg52 : GB := (.rw (.c1 (.mk (n64 1) (.m 38) (.p 35 0) (.p 40 0) (.p 42 0) (.p 45 0) (.m 46) (n64 1) (.p 49 0) (.p 50 0) (.m 51) (n64 1) (.p 52 0) (n64 1) (n64 0) (n64 0))))
noncomputable def wg53 : GB := (.mp (L [(n64 8), (n64 1), (n64 11), (n64 1010), (n64 12), (n64 1010), (n64 13), (n64 1)]))
noncomputable def wg54 : GB := (.mp (L [(n64 1), (.agg (L [(n64 1), (n64 1)])), (n64 2), (.agg (L [(n64 2), (n64 1)])), (n64 3), (.agg (L [(n64 4), (n64 1)])), (n64 4), (.agg (L [(n64 5), (n64 1)])), (n64 5), (.agg (L [(n64 10), (n64 1)])), (n64 6), (.agg (L [(n64 12), (n64 1)])), (n64 7), (.agg (L [(n64 15), (n64 1)])), (n64 8), (.agg (L [(n64 6), (n64 1)])), (n64 10), (.agg (L [(n64 8), (n64 1)])), (n64 11), (.agg (L [(n64 16), (n64 1)])), (n64 12), (.agg (L [(n64 17), (n64 1)])), (n64 13), (.agg (L [(n64 7), (n64 1)]))]))
noncomputable def wg55 : GB := (.rw (Cs.putL (L [(.s 3522 64 1 0 0 true), .ni]) 0 (Cs.mk 2)))
noncomputable def wg56 : GB := (.rw (.c2 (.mk (.mk (n64 1010) (n64 0) (.b false) (.b false) (n64 0) .ns .ns (.b false) (.b false) .ns (.b false) .ns .ns (.b false) (n64 0) .ns) (.mk .ns (.b false) (.b false) .ns (.b false) .ns .ns (.b false) (n64 1) .ns .ns (.b false) (.b true) .ns (.b false) (.s 4301 0 1 1 1 false)) (.mk .ns .u .u .u .u .u .u .u .u .u .u .u .u .u .u .u) (F.all .u) (F.all .u) (F.all .u) (F.all .u) (F.all .u) (F.all .u) (F.all .u) (F.all .u) (F.all .u) (F.all .u) (F.all .u) (F.all .u) (F.all .u))))
noncomputable def wg57 : GB := (.rw (Cs.putL (L [(n64 4), (.s 3617 0 1 0 0 true)]) 0 (Cs.mk 2)))
noncomputable def wg58 : GB := (.rw (Cs.putL (L [(n64 1010)]) 0 (Cs.mk 1)))
/-- (*tableau/server.Server).feed -/
noncomputable def we4a : AV := (L [(.p 54 0), (n64 1), (.s 3521 0 1 72 72 false)])
noncomputable def we4u : BL := [(1, wg5), (3, wg7), (19, wg8), (38, (.mp (L [(n64 1), (.p 78 0)]))), (39, (.mp (L [(n64 1010), (.p 2372 0)]))), (40, wg9), (41, (.mp (L [(n64 1010), (.p 2751 0)]))), (42, wg30), (43, wg24), (45, wg10), (54, wg12), (74, wg13), (78, wg16), (81, wg33), (83, wg18), (3277, wg44), (3298, wg45), (3335, (.mp .nil)), (3521, wg47)]
noncomputable def we4c : BL := [(44, (.mp .nil)), (46, (.mp .nil)), (49, wg36), (50, (.rw (Cs.putL (L [.ns]) 0 (Cs.mk 1)))), (51, (.mp .nil)), (53, wg37), (66, wg38), (73, wg39), (79, wg40), (2372, wg42), (2751, wg43)]
noncomputable def we4l : BL := [(44, wg48), (46, (.mp (L [(n64 1), (n64 1013)]))), (49, wg49), (50, wg50), (51, wg51), (53, wg52), (66, wg53), (73, wg54), (79, wg55), (2372, wg56), (2751, wg57), (3522, wg47), (3617, (.rw (.c1 (F.all .u)))), (4301, wg44), (4306, wg58), (4343, (.mp (L [(n64 1), (.b true)])))]
noncomputable def we4v : AV := (.tup .nil)
noncomputable def we4 : Ent := .mk we4a 3522 we4u we4c we4v 4347 we4l
/-- (*tableau/canvas.Canvas).each -/
noncomputable def we5a : AV := (L [(.p 35 0), (.s 4554 0 4 1 1 true), (.f 132 .nil (L [(.p 4555 0)]))])
noncomputable def we5u : BL := [(34, wg4), (35, wg0), (4554, wg1), (4555, wg2)]
noncomputable def we5c : BL := []
noncomputable def we5l : BL := []
noncomputable def we5v : AV := (.tup .nil)
noncomputable def we5 : Ent := .lo we5a 4556 we5u we5c we5v we5l
noncomputable def wg59 : GB := (.rw (Cs.putL (L [(n32 4278255360), (n32 4278255360), (n32 4278255360), (n32 4278255360)]) 0 (Cs.mk 4)))
noncomputable def wg60 : GB := (.rw (Cs.putL (L [(n64 2)]) 0 (Cs.mk 1)))
noncomputable def wg61 : GB := (.rw (Cs.putL (L [(.s 4551 0 1 4 4 false)]) 0 (Cs.mk 1)))
noncomputable def wg62 : GB := (.rw (Cs.putL (L [(n64 0), (n64 0), (n64 2), (n64 2)]) 0 (Cs.mk 4)))
noncomputable def wg63 : GB := (.rw (.c3 (.mk (.mk (.mk (n32 4278255360) (n32 4278255360) (n32 4279246896) (n32 4279246896) (n32 4279246896) (n32 4279246896) (n32 4279246896) (n32 4279246896) (n32 4279246896) (n32 4279246896) (n32 4279246896) (n32 4279246896) (n32 4279246896) (n32 4279246896) (n32 4279246896) (n32 4279246896)) (.mk (n32 4279246896) (n32 4279246896) (n32 4279246896) (n32 4279246896) (n32 4279246896) (n32 4279246896) (n32 4279246896) (n32 4279246896) (n32 4278255360) (n32 4278255360) (n32 4279246896) (n32 4279246896) (n32 4279246896) (n32 4279246896) (n32 4279246896) (n32 4279246896)) (F.all (n32 4279246896)) (F.all (n32 4279246896)) (F.all (n32 4279246896)) (F.all (n32 4279246896)) (F.all (n32 4279246896)) (F.all (n32 4279246896)) (F.all (n32 4279246896)) (F.all (n32 4279246896)) (F.all (n32 4279246896)) (F.all (n32 4279246896)) (F.all (n32 4279246896)) (F.all (n32 4279246896)) (F.all (n32 4279246896)) (F.all (n32 4279246896))) (.mk (F.all (n32 4279246896)) (F.all (n32 4279246896)) (F.all (n32 4279246896)) (F.all (n32 4279246896)) (F.all (n32 4279246896)) (F.all (n32 4279246896)) (F.all (n32 4279246896)) (F.all (n32 4279246896)) (F.all .u) (F.all .u) (F.all .u) (F.all .u) (F.all .u) (F.all .u) (F.all .u) (F.all .u)) (F.all (F.all .u)) (F.all (F.all .u)) (F.all (F.all .u)) (F.all (F.all .u)) (F.all (F.all .u)) (F.all (F.all .u)) (F.all (F.all .u)) (F.all (F.all .u)) (F.all (F.all .u)) (F.all (F.all .u)) (F.all (F.all .u)) (F.all (F.all .u)) (F.all (F.all .u)) (F.all (F.all .u)))))
/-- (*tableau/canvas.Canvas).each -/
noncomputable def we6a : AV := (L [(.p 35 0), (.s 4554 0 4 1 1 true), (.f 228 .nil (L [(.p 4561 0), (.p 4562 0), (.p 4560 0), (.p 4564 0), (.p 4563 0)]))])
noncomputable def we6u : BL := [(35, wg0), (4551, wg59), (4554, wg1), (4560, wg44), (4561, wg44), (4562, wg60), (4563, wg61), (4564, wg62)]
noncomputable def we6c : BL := [(34, wg4)]
noncomputable def we6l : BL := [(34, wg63)]
noncomputable def we6v : AV := (.tup .nil)
noncomputable def we6 : Ent := .lo we6a 4565 we6u we6c we6v we6l
end Go.Proofs.YtenpbpgoglepfaaGreatDoor
