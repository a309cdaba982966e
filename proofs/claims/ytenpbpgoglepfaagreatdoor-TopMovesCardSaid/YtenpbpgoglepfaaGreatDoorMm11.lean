/- The evaluator stands for the program: every row of the table; all calls. No condition. -/
import Derived.Test.YtenpbpgoglepfaaGreatDoorMm10
import Derived.LaidEql
import Derived.Test.YtenpbpgoglepfaaGreatDoorMm5
import Derived.Test.YtenpbpgoglepfaaGreatDoorMm1
import Derived.Test.YtenpbpgoglepfaaGreatDoorChecked
import Derived.LaidHandle
namespace Go.Proofs.YtenpbpgoglepfaaGreatDoor
open Go.RowKit
set_option linter.unusedVariables false
theorem eqT_ok : EqT Tryz.prog := ⟨by
  obtain ⟨i, hi, hcmp⟩ := Option.map_eq_some_iff.1 Tryz.isComp
  obtain ⟨j, hj, hjs⟩ := Option.map_eq_some_iff.1 Tryz.isSize
  exact ⟨_, i, j, Tryz.underlying465, hi, hcmp, hj, by rw [hjs]; decide⟩⟩
theorem mt_ok : MtOk Tryz.prog mt0 := fun t n g h v w => by
  simp only [mt0, List.mem_cons, Prod.mk.injEq, or_false, List.not_mem_nil] at h
  rcases h with ⟨rfl, rfl, rfl⟩ | ⟨rfl, rfl, rfl⟩ | ⟨rfl, rfl, rfl⟩ <;> kernel_rfl
theorem kn_ok : Kn Tryz.prog mt0 := ⟨eqT_ok, mt_ok⟩
theorem mixed_ok : Tryz.prog.follows .mixedOrders = true := by kernel_rfl
theorem tab_ok {E : Env} {B0 : Nat} (hE : E.ng = 18) (n : Nat) : FnOk Tryz.prog E B0 n (tabF n) := by
  by_cases h1 : n = 114
  · subst h1
    exact prIs_ok
  by_cases h2 : n = 352
  · subst h2
    exact prIdx_ok
  by_cases h3 : n = 64
  · subst h3
    exact prSorted_ok
  by_cases h4 : n = 219
  · subst h4
    exact prClone_ok
  by_cases hn : n < 512
  · have hr := rowOk_all n hn
    unfold rowOk at hr
    split at hr
    · rename_i e; rw [e]; exact fnOk_no
    · exfalso
      simp only [Bool.or_eq_true] at hr
      rcases hr with h | h | h | h
      · exact h1 (Nat.eq_of_beq_eq_true h)
      · exact h2 (Nat.eq_of_beq_eq_true h)
      · exact h3 (Nat.eq_of_beq_eq_true h)
      · exact h4 (Nat.eq_of_beq_eq_true h)
    · rename_i a b c e
      rw [e]
      split at hr
      · rename_i fn hf
        refine fnOk_x (mt := mt0) kn_ok (ckD := ckDD Tryz.prog E.ng mt0) (fun E' ro N id ops l he h => snd_dd mixed_ok kn_ok E' ro N id ops l he h) hf (by rw [hE]; exact hr)
      · cases hr
  · have e : tabF n = .no := by
      unfold tabF
      rcases h : Nat.blt n 512 with _ | _
      · rfl
      · exact absurd (blt_lt h) hn
    rw [e]
    exact fnOk_no
theorem eval_ok {E : Env} {B0 : Nat} (hE : E.ng = 18) (n : Nat) : CAll Tryz.prog E B0 (evF tabF n) := evF_ok (tab_ok hE) (by
  unfold tabF
  rfl) n
end Go.Proofs.YtenpbpgoglepfaaGreatDoor
namespace Go.Proofs.YtenpbpgoglepfaaGreatDoor
open Go.RowKit
set_option linter.unusedVariables false

/-- The errors, by their variables' numbers. -/
def errG (g : Nat) : Nat := match g with
  | 1 => 1 | 3 => 2 | 5 => 3 | 7 => 4 | 4 => 5 | 6 => 6 | 8 => 7 | 9 => 8 | 10 => 9 | 11 => 10 | 12 => 11 | 13 => 12 | 14 => 13 | 2 => 14 | 0 => 15 | 16 => 16 | _ => 0
noncomputable def putE (k : Nat) (h : Hp) : Hp := Hp.put (Hp.put h (gno k) (.ro (Cs.put Cs.non 0 (.ifc 465 (.p (17 + k) 0))))) (17 + k) (.ro (Cs.put Cs.non 0 (.str ((gtext k).map fun b => b.toNat))))
/-- What is known at the start: error k's variable, and its text in ghost block 17 + k. -/
noncomputable def st0 : St := .mk (putE 16 (putE 15 (putE 14 (putE 13 (putE 12 (putE 11 (putE 10 (putE 9 (putE 8 (putE 7 (putE 6 (putE 5 (putE 4 (putE 3 (putE 2 (putE 1 Hp.non)))))))))))))))) 34
def allE : List Nat := [1, 2, 3, 4, 5, 6, 7, 8, 9, 10, 11, 12, 13, 14, 15, 16]
def rho0 (w : World) (A : Nat → Addr) (o : Nat → Value) : Rho := ⟨34, fun b => b < 34, fun b => if b < 18 then b else (A (b - 17)).block, fun b => if b < 18 then 0 else (A (b - 17)).off, fun b => match w.heap[if b < 18 then b else (A (b - 17)).block]? with | some (.cells cs _ _) => cs.size | _ => 0, fun _ => default, o⟩
def env0 (o : Nat → Value) : Env := ⟨18, none, o⟩
theorem base0 {w : World} {B : Nat} {A : Nat → Addr} {o : Nat → Value} (hE : Errs w B allE A) : Base (env0 o) (rho0 w A o) :=
  ⟨fun g hg => ⟨Nat.lt_of_lt_of_le (show g < 18 from hg) (by decide), if_pos hg, if_pos hg⟩, fun r1 h => (by cases h), fun g hg => hg, fun g g' hg hg' hl hl' e e2 => by
    have hg : g < 34 := hg
    have hg' : g' < 34 := hg'
    have hl : 18 ≤ g := hl
    have hl' : 18 ≤ g' := hl'
    simp only [rho0, if_neg (show ¬ g < 18 by omega), if_neg (show ¬ g' < 18 by omega)] at e e2
    have mem : ∀ g, 18 ≤ g → g < 34 → g - 17 ∈ allE := fun g h1 h2 => by
      have : g - 17 ≤ 16 ∧ 1 ≤ g - 17 := by omega
      generalize g - 17 = k at this
      simp only [allE, List.mem_cons, List.not_mem_nil, or_false]
      omega
    have s1 := (hE.1 _ (mem g hl hg)).2.2.2.1
    have s2 := (hE.1 _ (mem g' hl' hg')).2.2.2.1
    have := hE.2 _ (mem g hl hg) _ (mem g' hl' hg') (by
      cases h1 : A (g - 17) with
      | mk b o s => cases h2 : A (g' - 17) with
        | mk b' o' s' => rw [h1] at e e2 s1; rw [h2] at e e2 s2; simp_all)
    omega, rfl⟩
theorem sim0 {w : World} {B : Nat} {A : Nat → Addr} {o : Nat → Value} (hE : Errs w B allE A) (hB : B ≤ w.heap.size) (hy : ETy0 B w) (hG : ∀ k ∈ allE, ∃ c t, w.heap[gno k]? = some (.cells c t (0, 0))) : Sim B (rho0 w A o) st0 w := by
  have put : ∀ (h : Hp) (b : Nat) (g : GB), (∀ b, OkB B (rho0 w A o) w b (Hp.get h b) ∧ ¬ (Hp.get h b).live) → OkB B (rho0 w A o) w b g → ¬ g.live → ∀ b', OkB B (rho0 w A o) w b' (Hp.get (Hp.put h b g) b') ∧ ¬ (Hp.get (Hp.put h b g) b').live := fun h b g hh hg hl b' => by
    rcases Hp.get_put h b g b' with e | ⟨rfl, e⟩ | ⟨_, e⟩
    · rw [e]; exact ⟨trivial, fun h => h⟩
    · rw [e]; exact ⟨hg, hl⟩
    · rw [e]; exact hh b'
  have row : ∀ (b : Nat) (v : AV) (x : Value) (c : Array Value) (t : TypeId), b < 34 → w.heap[(rho0 w A o).blk b]? = some (.cells c t (0, 0)) → (rho0 w A o).blk b < B → c[(rho0 w A o).off b]? = some x → Rel (rho0 w A o) v x → OkB B (rho0 w A o) w b (.ro (Cs.put Cs.non 0 v)) := fun b v x c t hb hh hlt hc hr => by
    refine ⟨⟨hb, c, t, (0, 0), hh, ?_, fun q ho => ?_, .inl rfl⟩, hlt, c, t, hh⟩
    · have hh' : w.heap[if b < 18 then b else (A (b - 17)).block]? = some (.cells c t (0, 0)) := hh
      simp only [rho0, hh']
    · rcases Cs.get_put Cs.non 0 v q with e | ⟨rfl, e⟩ | ⟨_, e⟩
      · exact absurd e ho
      · rw [e]
        exact ⟨x, by rw [Nat.add_zero]; exact hc, hr⟩
      · exact absurd (e.trans (Cs.get_non q)) ho
  have step : ∀ k ∈ allE, ∀ h : Hp, (∀ b, OkB B (rho0 w A o) w b (Hp.get h b) ∧ ¬ (Hp.get h b).live) → ∀ b, OkB B (rho0 w A o) w b (Hp.get (putE k h) b) ∧ ¬ (Hp.get (putE k h) b).live := fun k hk h hh => by
    obtain ⟨h1, h2, h3, h4, ⟨c2, t2, h5⟩, h6⟩ := hE.1 k hk
    obtain ⟨c1, t1, hg⟩ := hG k hk
    have hk1 : 1 ≤ k ∧ k ≤ 16 := by
      simp only [allE, List.mem_cons, List.not_mem_nil, or_false] at hk
      omega
    have hgn : gno k < 18 := by
      simp only [allE, List.mem_cons, List.not_mem_nil, or_false] at hk
      rcases hk with rfl | rfl | rfl | rfl | rfl | rfl | rfl | rfl | rfl | rfl | rfl | rfl | rfl | rfl | rfl | rfl <;> decide
    have e1 : (rho0 w A o).blk (gno k) = gno k ∧ (rho0 w A o).off (gno k) = 0 := ⟨if_pos hgn, if_pos hgn⟩
    have e2 : (rho0 w A o).blk (17 + k) = (A k).block ∧ (rho0 w A o).off (17 + k) = (A k).off := by
      have : 17 + k - 17 = k := by omega
      simp only [rho0, if_neg (show ¬ 17 + k < 18 by omega), this, and_self]
    have hA : A k = ⟨(A k).block, (A k).off, none⟩ := by
      cases h : A k with
      | mk b o s => rw [h] at h4; simp_all
    unfold putE
    refine put _ _ _ (put _ _ _ hh (row (gno k) _ _ c1 t1 (by omega) (by rw [e1.1]; exact hg) (by rw [e1.1]; exact h2) (by rw [e1.2]; rw [cell_at hg] at h1; exact h1) ?_) (fun h => h)) (row (17 + k) _ _ c2 t2 (by omega) (by rw [e2.1]; exact h5) (by rw [e2.1]; exact h3) (by rw [e2.2]; rw [hA, cell_at h5] at h6; exact h6) ?_) (fun h => h)
    · refine ⟨_, rfl, ?_, ?_⟩
      · show 17 + k < 34
        omega
      · rw [e2.1, e2.2, Nat.add_zero, ← hA]
    · exact ⟨_, rfl, (byt_nat _ _).symm⟩
  have all : ∀ b, OkB B (rho0 w A o) w b (Hp.get st0.h b) ∧ ¬ (Hp.get st0.h b).live := by
    have h0 : ∀ b, OkB B (rho0 w A o) w b (Hp.get Hp.non b) ∧ ¬ (Hp.get Hp.non b).live := fun b => by rw [Hp.get_non]; exact ⟨trivial, fun h => h⟩
    exact step 16 (by decide) _ (step 15 (by decide) _ (step 14 (by decide) _ (step 13 (by decide) _ (step 12 (by decide) _ (step 11 (by decide) _ (step 10 (by decide) _ (step 9 (by decide) _ (step 8 (by decide) _ (step 7 (by decide) _ (step 6 (by decide) _ (step 5 (by decide) _ (step 4 (by decide) _ (step 3 (by decide) _ (step 2 (by decide) _ (step 1 (by decide) _ h0)))))))))))))))
  exact ⟨rfl, fun b h => h, hB, fun b => (all b).1, fun b b' hb _ _ => absurd hb (all b).2, hy⟩
end Go.Proofs.YtenpbpgoglepfaaGreatDoor
namespace Go.Proofs.YtenpbpgoglepfaaGreatDoor
open Go.RowKit
set_option linter.unusedVariables false
theorem run0 {w : World} {A : Nat → Addr} {o : Nat → Value} (hE : Errs w w.heap.size allE A) (hy : ETy0 w.heap.size w) (hG : ∀ k ∈ allE, ∃ c t, w.heap[gno k]? = some (.cells c t (0, 0))) {n g : Nat} (hg : g < yN) {ar v : AV} {s' : St} (h : evF tabF n g ar st0 = .ok v s') {args : Array Value} (hr : RelL (rho0 w A o) ar args.toList) :
    CallsF Tryz.prog g args w fun x w' => ∃ r', Base (env0 o) r' ∧ Rel r' v x ∧ Sim w.heap.size r' s' w' ∧ Below w.heap.size w w' := by
  have hs := sim0 (o := o) hE (Nat.le_refl _) hy hG
  have k := (eval_ok (E := env0 o) (B0 := w.heap.size) rfl n).1 g ar st0 v s' hg h (rho0 w A o) w args (base0 hE) hs hr
  have f : ∀ x w', (∃ r', Rel r' v x ∧ Sim w.heap.size r' s' w' ∧ Stp (rho0 w A o) st0 w r' s' w') → ∃ r', Base (env0 o) r' ∧ Rel r' v x ∧ Sim w.heap.size r' s' w' ∧ Below w.heap.size w w' := fun x w' ⟨r', h1, h2, h3⟩ => ⟨r', (base0 hE).le h3.le, h1, h2, Stp.below hs h3⟩
  rcases k with ⟨k1, k2⟩ | ⟨x, w', k1, k2⟩
  · exact .inl ⟨k1, k2.mono fun e w' ⟨x, he, hx⟩ => ⟨x, he, f x w' hx⟩⟩
  · exact .inr ⟨x, w', k1, f x w' k2⟩
end Go.Proofs.YtenpbpgoglepfaaGreatDoor
namespace Go.Proofs.YtenpbpgoglepfaaGreatDoor
open Go.RowKit
set_option linter.unusedVariables false
noncomputable def F.all2 {α : Type} (p : α → α → Bool) (s t : F α) : Bool := F.rec (motive := fun _ => Bool) (fun a0 a1 a2 a3 a4 a5 a6 a7 a8 a9 aa ab ac ad ae af => F.rec (motive := fun _ => Bool) (fun c0 c1 c2 c3 c4 c5 c6 c7 c8 c9 ca cb cc cd ce cf =>
  p a0 c0 && (p a1 c1 && (p a2 c2 && (p a3 c3 && (p a4 c4 && (p a5 c5 && (p a6 c6 && (p a7 c7 && (p a8 c8 && (p a9 c9 && (p aa ca && (p ab cb && (p ac cc && (p ad cd && (p ae ce && p af cf))))))))))))))) t) s
theorem F.all2_eq {α : Type} {p : α → α → Bool} (hp : ∀ a c, p a c = true → a = c) {s t : F α} (h : F.all2 p s t = true) : s = t := by
  cases s
  cases t
  simp only [F.all2, Bool.and_eq_true] at h
  obtain ⟨h0, h1, h2, h3, h4, h5, h6, h7, h8, h9, ha, hb, hc, hd, he, hf⟩ := h
  rw [hp _ _ h0, hp _ _ h1, hp _ _ h2, hp _ _ h3, hp _ _ h4, hp _ _ h5, hp _ _ h6, hp _ _ h7, hp _ _ h8, hp _ _ h9, hp _ _ ha, hp _ _ hb, hp _ _ hc, hp _ _ hd, hp _ _ he, hp _ _ hf]
noncomputable def eqCs : Cs → Cs → Bool
  | .c1 f, .c1 g => F.all2 sameA f g
  | .c2 f, .c2 g => F.all2 (F.all2 sameA) f g
  | .c3 f, .c3 g => F.all2 (F.all2 (F.all2 sameA)) f g
  | _, _ => false
theorem eqCs_eq {a c : Cs} (h : eqCs a c = true) : a = c := by
  unfold eqCs at h
  split at h
  · rw [F.all2_eq (fun _ _ h => sameA_eq h) h]
  · rw [F.all2_eq (fun _ _ h => F.all2_eq (fun _ _ h => sameA_eq h) h) h]
  · rw [F.all2_eq (fun _ _ h => F.all2_eq (fun _ _ h => F.all2_eq (fun _ _ h => sameA_eq h) h) h) h]
  · cases h
noncomputable def eqGB : GB → GB → Bool
  | .ro a, .ro c => eqCs a c
  | .rw a, .rw c => eqCs a c
  | .mp a, .mp c => sameA a c
  | _, _ => false
theorem eqGB_eq {a c : GB} (h : eqGB a c = true) : a = c := by
  unfold eqGB at h
  split at h
  · rw [eqCs_eq h]
  · rw [eqCs_eq h]
  · rw [sameA_eq h]
  · cases h
noncomputable def hpOf : List (Nat × GB) → Hp
  | [] => Hp.non
  | (b, g) :: l => Hp.put (hpOf l) b g
noncomputable def inHp (h : Hp) : List (Nat × GB) → Bool
  | [] => true
  | (b, g) :: l => eqGB (Hp.get h b) g && inHp h l
theorem hpOf_sub {h : Hp} : ∀ {l : List (Nat × GB)}, inHp h l = true → ∀ b, Hp.get (hpOf l) b = .no ∨ Hp.get (hpOf l) b = Hp.get h b
  | [], _, b => .inl (Hp.get_non b)
  | (b0, g) :: l, hl, b => by
    simp only [inHp, Bool.and_eq_true] at hl
    rcases Hp.get_put (hpOf l) b0 g b with e | ⟨rfl, e⟩ | ⟨_, e⟩
    · exact .inl e
    · exact .inr (e.trans (eqGB_eq hl.1).symm)
    · rcases hpOf_sub hl.2 b with e' | e'
      · exact .inl (e.trans e')
      · exact .inr (e.trans e')
noncomputable def cutB (r : RC) (v : AV) (n : Nat) (l : List (Nat × GB)) : Bool := RC.rec (motive := fun _ => Bool) false (fun v' s' => sameA v' v && (Nat.beq s'.n n && inHp s'.h l)) r
/-- A run that ends as listed stands for a call. -/
theorem cut_ok {n g : Nat} {ar v : AV} {s : St} {n1 : Nat} {l : List (Nat × GB)} (h : cutB (evF tabF n g ar s) v n1 l = true) (hg : g < yN) {E : Env} (hE : E.ng = 18) {B0 : Nat} {r : Rho} {w : World} {args : Array Value} (hb : Base E r) (hs : Sim B0 r s w) (hr : RelL r ar args.toList) :
    CallsF Tryz.prog g args w fun x w' => ∃ r', Rel r' v x ∧ Sim B0 r' (.mk (hpOf l) n1) w' ∧ Stp r s w r' (.mk (hpOf l) n1) w' := by
  cases he : evF tabF n g ar s with
  | bad => rw [he] at h; cases h
  | ok v' s' =>
    rw [he] at h
    have h : (sameA v' v && (Nat.beq s'.n n1 && inHp s'.h l)) = true := h
    simp only [Bool.and_eq_true] at h
    obtain ⟨h1, h2, h3⟩ := h
    obtain rfl := sameA_eq h1
    obtain rfl := Nat.eq_of_beq_eq_true h2
    have hsub : ∀ b, Hp.get (St.mk (hpOf l) s'.n).h b = .no ∨ Hp.get (St.mk (hpOf l) s'.n).h b = Hp.get s'.h b := hpOf_sub h3
    have f : ∀ x w', (∃ r', Rel r' v' x ∧ Sim B0 r' s' w' ∧ Stp r s w r' s' w') → ∃ r', Rel r' v' x ∧ Sim B0 r' (.mk (hpOf l) s'.n) w' ∧ Stp r s w r' (.mk (hpOf l) s'.n) w' := fun x w' ⟨r', k1, k2, k3⟩ => ⟨r', k1, k2.sub rfl hsub, k3.to fun b hl => by
      rcases hsub b with e | e
      · rw [e] at hl; exact hl.elim
      · rw [← e]; exact hl⟩
    rcases (eval_ok (E := E) (B0 := B0) hE n).1 g ar s v' s' hg he r w args hb hs hr with ⟨k1, k2⟩ | ⟨x, w', k1, k2⟩
    · exact .inl ⟨k1, k2.mono fun e w' ⟨x, hx, hy⟩ => ⟨x, hx, f x w' hy⟩⟩
    · exact .inr ⟨x, w', k1, f x w' k2⟩
end Go.Proofs.YtenpbpgoglepfaaGreatDoor
namespace Go.Proofs.YtenpbpgoglepfaaGreatDoor
open Go.RowKit
set_option linter.unusedVariables false
abbrev BL := List (Nat × GB)
/-- A call: its arguments; how many blocks there are; those that it looks at alone; those that change; its value; how many blocks there are then; what changed, and what is new. -/
inductive Ent where
  | mk (ar : AV) (n : Nat) (lu lc : BL) (v : AV) (n' : Nat) (l' : BL)
  | lo (ar : AV) (n : Nat) (lu lc : BL) (v : AV) (l' : BL)
noncomputable def F.all1 {α : Type} (p : α → Bool) (t : F α) : Bool := F.rec (motive := fun _ => Bool) (fun c0 c1 c2 c3 c4 c5 c6 c7 c8 c9 ca cb cc cd ce cf =>
  p c0 && (p c1 && (p c2 && (p c3 && (p c4 && (p c5 && (p c6 && (p c7 && (p c8 && (p c9 && (p ca && (p cb && (p cc && (p cd && (p ce && p cf))))))))))))))) t
theorem F.all1_get {α : Type} {p : α → Bool} {t : F α} (h : F.all1 p t = true) (x : H) : p (F.get x t) = true := by
  cases t
  simp only [F.all1, Bool.and_eq_true] at h
  obtain ⟨h0, h1, h2, h3, h4, h5, h6, h7, h8, h9, ha, hb, hc, hd, he, hf⟩ := h
  cases x <;> assumption
noncomputable def belC (n : Nat) (c : Cs) : Bool := Cs.rec (motive := fun _ => Bool) (fun f => F.all1 (belA n) f) (fun f => F.all1 (F.all1 (belA n)) f) (fun f => F.all1 (F.all1 (F.all1 (belA n))) f) c
noncomputable def belG (n : Nat) (g : GB) : Bool := GB.rec (motive := fun _ => Bool) true (fun c => belC n c) (fun c => belC n c) (fun l => belA n l) (fun _ => false) g
noncomputable def belL (n : Nat) (l : BL) : Bool := List.rec (motive := fun _ => Bool) true (fun e _ ih => Prod.rec (motive := fun _ => Bool) (fun b g => ifB (Nat.blt b n) (ifB (belG n g) ih false) false) e) l
theorem belC_get {n : Nat} {c : Cs} (h : belC n c = true) (o : Nat) : belA n (Cs.get c o) = true := by
  have key : ∀ (b : Bool) (v : AV), belA n v = true → belA n (ifB b v .u) = true := fun b v hv => by cases b; exact rfl; exact hv
  cases c with
  | c1 f => exact key _ _ (F.all1_get h _)
  | c2 f => exact key _ _ (F.all1_get (F.all1_get h _) _)
  | c3 f => exact key _ _ (F.all1_get (F.all1_get (F.all1_get h _) _) _)
theorem belL_mem {n b : Nat} {g : GB} : ∀ {l : BL}, belL n l = true → (b, g) ∈ l → b < n ∧ belG n g = true
  | [], _, hm => by cases hm
  | (b0, g0) :: l, hl, hm => by
    have hl : ifB (Nat.blt b0 n) (ifB (belG n g0) (belL n l) false) false = true := hl
    rcases h1 : Nat.blt b0 n with _ | _
    · rw [h1] at hl; cases hl
    rcases h2 : belG n g0 with _ | _
    · rw [h1, h2] at hl; cases hl
    rw [h1, h2] at hl
    rcases List.mem_cons.1 hm with e | hm
    · injection e with e1 e2
      rw [e1, e2]
      exact ⟨blt_lt h1, h2⟩
    · exact belL_mem hl hm
noncomputable def putH (l : BL) (h : Hp) : Hp := List.rec (motive := fun _ => Hp) h (fun e _ ih => Prod.rec (motive := fun _ => Hp) (fun b g => Hp.put ih b g) e) l
noncomputable def delH (l : BL) (h : Hp) : Hp := List.rec (motive := fun _ => Hp) h (fun e _ ih => Prod.rec (motive := fun _ => Hp) (fun b _ => Hp.put ih b .no) e) l
noncomputable def inH (h : Hp) (l : BL) : Bool := List.rec (motive := fun _ => Bool) true (fun e _ ih => Prod.rec (motive := fun _ => Bool) (fun b g => ifB (eqGB (Hp.get h b) g) ih false) e) l
noncomputable def stE (n : Nat) (lu lc : BL) : St := .mk (putH lc (putH lu Hp.non)) n
theorem putH_mem {h : Hp} {b : Nat} : ∀ {l : BL}, Hp.get (putH l h) b = .no ∨ (∃ g, (b, g) ∈ l ∧ Hp.get (putH l h) b = g) ∨ Hp.get (putH l h) b = Hp.get h b
  | [] => .inr (.inr rfl)
  | (b0, g0) :: l => by
    show Hp.get (Hp.put (putH l h) b0 g0) b = .no ∨ (∃ g, (b, g) ∈ (b0, g0) :: l ∧ Hp.get (Hp.put (putH l h) b0 g0) b = g) ∨ Hp.get (Hp.put (putH l h) b0 g0) b = Hp.get h b
    rcases Hp.get_put (putH l h) b0 g0 b with e | ⟨rfl, e⟩ | ⟨_, e⟩
    · exact .inl e
    · exact .inr (.inl ⟨g0, by simp, e⟩)
    · rw [e]
      rcases putH_mem (h := h) (b := b) (l := l) with k | ⟨g, k1, k2⟩ | k
      · exact .inl k
      · exact .inr (.inl ⟨g, List.mem_cons_of_mem _ k1, k2⟩)
      · exact .inr (.inr k)
theorem delH_mem {h : Hp} {b : Nat} : ∀ {l : BL}, Hp.get (delH l h) b = .no ∨ (Hp.get (delH l h) b = Hp.get h b ∧ ∀ g, (b, g) ∉ l)
  | [] => .inr ⟨rfl, fun g => by simp⟩
  | (b0, g0) :: l => by
    show Hp.get (Hp.put (delH l h) b0 .no) b = .no ∨ (Hp.get (Hp.put (delH l h) b0 .no) b = Hp.get h b ∧ ∀ g, (b, g) ∉ (b0, g0) :: l)
    rcases Hp.get_put (delH l h) b0 .no b with e | ⟨_, e⟩ | ⟨hn, e⟩
    · exact .inl e
    · exact .inl e
    · rw [e]
      rcases delH_mem (h := h) (b := b) (l := l) with k | ⟨k1, k2⟩
      · exact .inl k
      · refine .inr ⟨k1, fun g hm => ?_⟩
        rcases List.mem_cons.1 hm with e' | hm
        · injection e' with e1 e2
          exact hn e1
        · exact k2 g hm
theorem inH_mem {h : Hp} {b : Nat} {g : GB} : ∀ {l : BL}, inH h l = true → (b, g) ∈ l → Hp.get h b = g
  | [], _, hm => by cases hm
  | (b0, g0) :: l, hl, hm => by
    have hl : ifB (eqGB (Hp.get h b0) g0) (inH h l) false = true := hl
    rcases he : eqGB (Hp.get h b0) g0 with _ | _
    · rw [he] at hl; cases hl
    rw [he] at hl
    rcases List.mem_cons.1 hm with e | hm
    · injection e with e1 e2
      rw [e1, e2]
      exact eqGB_eq he
    · exact inH_mem hl hm
theorem stE_mem {n b : Nat} {lu lc : BL} : Hp.get (stE n lu lc).h b = .no ∨ (∃ g, (b, g) ∈ lc ∧ Hp.get (stE n lu lc).h b = g) ∨ (∃ g, (b, g) ∈ lu ∧ Hp.get (stE n lu lc).h b = g) := by
  show Hp.get (putH lc (putH lu Hp.non)) b = .no ∨ (∃ g, (b, g) ∈ lc ∧ Hp.get (putH lc (putH lu Hp.non)) b = g) ∨ (∃ g, (b, g) ∈ lu ∧ Hp.get (putH lc (putH lu Hp.non)) b = g)
  rcases putH_mem (h := putH lu Hp.non) (b := b) (l := lc) with k | k | k
  · exact .inl k
  · exact .inr (.inl k)
  · rw [k]
    rcases putH_mem (h := Hp.non) (b := b) (l := lu) with q | q | q
    · exact .inl q
    · exact .inr (.inr q)
    · exact .inl (q.trans (Hp.get_non b))
theorem stE_sub {h : Hp} {n : Nat} {lu lc : BL} (h1 : inH h lu = true) (h2 : inH h lc = true) (b : Nat) : Hp.get (stE n lu lc).h b = .no ∨ Hp.get (stE n lu lc).h b = Hp.get h b := by
  rcases stE_mem (n := n) (b := b) (lu := lu) (lc := lc) with k | ⟨g, k1, k2⟩ | ⟨g, k1, k2⟩
  · exact .inl k
  · exact .inr (k2.trans (inH_mem h2 k1).symm)
  · exact .inr (k2.trans (inH_mem h1 k1).symm)
theorem CallsF.mono {P : Program} {g : FuncId} {args : Array Value} {w : World} {R R' : Value → World → Prop} (h : CallsF P g args w R) (k : ∀ x w', R x w' → R' x w') : CallsF P g args w R' := by
  rcases h with ⟨h1, h2⟩ | ⟨x, w', h1, h2⟩
  · exact .inl ⟨h1, h2.mono fun e w' ⟨v, e1, e2⟩ => ⟨v, e1, k _ _ e2⟩⟩
  · exact .inr ⟨x, w', h1, k _ _ h2⟩
/-- The opaque numbers, as the places give them; they are less than eight. -/
def opnOf (o : Nat → Value) (j : Nat) : Nat := (match o (1000 + j) with | .int _ n => n.toNat | _ => 0) % 256
theorem opn_of (r : Rho) (j : Nat) : r.opn j = opnOf r.opq j := rfl
def Good (o : Nat → Value) : Prop := ∀ j, opnOf o j < 8
def EOk (E : Env) : Prop := E.ng = 18 ∧ Good E.opq
/-- What an entry claims. -/
def EntOk (g : Nat) : Ent → Prop
  | .mk ar n lu lc v n' l' => ∀ (E : Env) (B0 : Nat), EOk E → ∀ (r : Rho) (w : World) (args : Array Value), Base E r → Sim B0 r (stE n lu lc) w → RelL r ar args.toList →
    CallsF Tryz.prog g args w fun x w' => ∃ r' s', Rel r' v x ∧ Sim B0 r' s' w' ∧ Stp r (stE n lu lc) w r' s' w' ∧ s'.n = n' ∧ inH s'.h lu = true ∧ inH s'.h l' = true
  | .lo ar n lu lc v l' => (34 ≤ n ∧ belA n ar = true ∧ belL n lu = true ∧ belL n lc = true ∧ belA n v = true ∧ belL n l' = true) ∧ ∀ (E : Env) (B0 : Nat), EOk E → ∀ (r : Rho) (w : World) (args : Array Value), Base E r → Sim B0 r (stE n lu lc) w → RelL r ar args.toList →
    CallsF Tryz.prog g args w fun x w' => ∃ r' s', Rel r' v x ∧ Sim B0 r' s' w' ∧ Stp r (stE n lu lc) w r' s' w' ∧ inH s'.h lu = true ∧ inH s'.h l' = true
/-- What an entry claims where the values of which nothing is known are these. -/
def EntAt (o : Nat → Value) (g : Nat) : Ent → Prop
  | .mk ar n lu lc v n' l' => ∀ (E : Env) (B0 : Nat), EOk E → E.opq = o → ∀ (r : Rho) (w : World) (args : Array Value), Base E r → Sim B0 r (stE n lu lc) w → RelL r ar args.toList →
    CallsF Tryz.prog g args w fun x w' => ∃ r' s', Rel r' v x ∧ Sim B0 r' s' w' ∧ Stp r (stE n lu lc) w r' s' w' ∧ s'.n = n' ∧ inH s'.h lu = true ∧ inH s'.h l' = true
  | .lo ar n lu lc v l' => (34 ≤ n ∧ belA n ar = true ∧ belL n lu = true ∧ belL n lc = true ∧ belA n v = true ∧ belL n l' = true) ∧ ∀ (E : Env) (B0 : Nat), EOk E → E.opq = o → ∀ (r : Rho) (w : World) (args : Array Value), Base E r → Sim B0 r (stE n lu lc) w → RelL r ar args.toList →
    CallsF Tryz.prog g args w fun x w' => ∃ r' s', Rel r' v x ∧ Sim B0 r' s' w' ∧ Stp r (stE n lu lc) w r' s' w' ∧ inH s'.h lu = true ∧ inH s'.h l' = true
theorem EntOk.at {o : Nat → Value} {g : Nat} : ∀ {e : Ent}, EntOk g e → EntAt o g e
  | .mk .., h => fun E B0 hE _ => h E B0 hE
  | .lo .., h => ⟨h.1, fun E B0 hE _ => h.2 E B0 hE⟩
/-- A block's content, known of places below n alone. -/
theorem OkB.cutTo {B0 n m b : Nat} {r : Rho} {w : World} {g : GB} (h : OkB B0 r w b g) (hb : b < n) (hg : belG n g = true) : OkB B0 (r.cut n m) w b g := by
  cases g with
  | no => trivial
  | ro c =>
    obtain ⟨⟨a1, cs, ty, f, a2, a3, a4, a5⟩, a6⟩ := h
    exact ⟨⟨⟨a1, hb⟩, cs, ty, f, a2, a3, fun q hq => by
      obtain ⟨x, x1, x2⟩ := a4 q hq
      exact ⟨x, x1, (rel_cut _).1 _ (belC_get hg q) x2⟩, a5⟩, a6⟩
  | rw c =>
    obtain ⟨⟨a1, cs, ty, f, a2, a3, a4, a5⟩, a6⟩ := h
    exact ⟨⟨⟨a1, hb⟩, cs, ty, f, a2, a3, fun q hq => by
      obtain ⟨x, x1, x2⟩ := a4 q hq
      exact ⟨x, x1, (rel_cut _).1 _ (belC_get hg q) x2⟩, a5⟩, a6⟩
  | mp l =>
    obtain ⟨a1, a2, es, cl, a3, a4, a5⟩ := h
    exact ⟨⟨a1, hb⟩, a2, es, cl, a3, (rel_cut _).2 _ hg a4, a5⟩
  | lp _ => cases hg
/-- A call that is known from a state of few blocks, none of which it makes for others, is known from a state of more. -/
theorem lo_step {E : Env} {B0 g n : Nat} {ar v : AV} {lu lc l' : BL} (hE : EOk E) (he : EntAt E.opq g (.lo ar n lu lc v l')) {r : Rho} {u : St} {w : World} {args : Array Value} (hb : Base E r) (hs : Sim B0 r u w) (hn : n ≤ u.n) (h3 : inH u.h lu = true) (h4 : inH u.h lc = true) (hr : RelL r ar args.toList) :
    CallsF Tryz.prog g args w fun x w' => ∃ r', Rel r' v x ∧ Sim B0 r' (.mk (putH l' (delH lc u.h)) u.n) w' ∧ Stp r u w r' (.mk (putH l' (delH lc u.h)) u.n) w' := by
  obtain ⟨⟨q1, q2, q3, q4, q5, q6⟩, he⟩ := he
  have hsub := stE_sub (n := n) h3 h4
  have hbel : ∀ b, Hp.get (stE n lu lc).h b ≠ .no → b < n ∧ belG n (Hp.get (stE n lu lc).h b) = true := fun b hno => by
    rcases stE_mem (n := n) (b := b) (lu := lu) (lc := lc) with t | ⟨g', t1, t2⟩ | ⟨g', t1, t2⟩
    · exact absurd t hno
    · rw [t2]; exact belL_mem q4 t1
    · rw [t2]; exact belL_mem q3 t1
  have hlive : ∀ b, (Hp.get (stE n lu lc).h b).live → (Hp.get u.h b).live := fun b hl => by
    rcases hsub b with t | t
    · rw [t] at hl; exact hl.elim
    · rw [← t]; exact hl
  have hs0 : Sim B0 (r.cut n n) (stE n lu lc) w := by
    refine ⟨rfl, fun b hb => hb.2, hs.low, fun b => ?_, fun b b' h1 h2 e => hs.inj b b' (hlive b h1) (hlive b' h2) e, hs.ety⟩
    by_cases hno : Hp.get (stE n lu lc).h b = .no
    · rw [hno]; trivial
    · obtain ⟨k1, k2⟩ := hbel b hno
      refine OkB.cutTo ?_ k1 k2
      rcases hsub b with t | t
      · exact absurd t hno
      · rw [t]; exact hs.ok b
  have hb0 : Base ⟨18, none, E.opq⟩ (r.cut n n) := ⟨fun g hg => by
    obtain ⟨k1, k2, k3⟩ := hb.glob g (by rw [hE.1]; exact hg)
    exact ⟨⟨k1, Nat.lt_of_lt_of_le (show g < 18 from hg) (Nat.le_trans (by decide) q1)⟩, k2, k3⟩, fun r1 e => (by cases e), fun g hg => ⟨hb.few g hg, Nat.lt_of_lt_of_le hg q1⟩, hb.inj, hb.opq⟩
  refine (he ⟨18, none, E.opq⟩ _ ⟨rfl, hE.2⟩ rfl _ _ args hb0 hs0 ((rel_cut _).2 _ q2 hr)).mono fun x w' ⟨r', s', k1, k2, k3, k5, k6⟩ => ?_
  have hnr : n ≤ r.n := by rw [← hs.n]; exact hn
  have hback : ∀ b, r'.has b → b < n → r.has b := fun b h1 h2 => by
    rcases k3.new b h1 with h | h
    · exact h.1
    · have h : n ≤ b := h
      omega
  have hle : (r'.cut n n).Le r := ⟨hnr, fun b hb => by
    have h1 := hback b hb.1 hb.2
    obtain ⟨_, e1, e2, e3⟩ := k3.le.same b ⟨h1, hb.2⟩
    exact ⟨h1, e1.symm, e2.symm, e3.symm⟩, fun b hb => (k3.le.loop b ⟨hback b hb.1 hb.2, hb.2⟩).symm, k3.le.opq.symm⟩
  have hblk : ∀ b, r'.has b → b < n → r'.blk b = r.blk b := fun b h1 h2 => (k3.le.same b ⟨hback b h1 h2, h2⟩).2.1
  -- what is known behind it, in terms of the places ahead
  obtain ⟨H2, hH2⟩ := Hp.over (fun b => some (if b < n ∧ belG n (Hp.get s'.h b) = true then Hp.get s'.h b else .no)) 0 65536 Hp.non (by decide)
  have hget : ∀ b, Hp.get H2 b = if b < n ∧ belG n (Hp.get s'.h b) = true then Hp.get s'.h b else .no := fun b => by
    rw [hH2 b]
    by_cases hf : b < 65536
    · rw [if_pos ⟨Nat.zero_le _, by omega⟩]; rfl
    · rw [if_neg (by omega), Hp.get_non]
      have : Hp.get s'.h b = .no := by
        unfold Hp.get
        rcases hbl : Nat.blt b 65536 with _ | _
        · rfl
        · exact absurd (blt_lt hbl) hf
      rw [this]
      split <;> rfl
  have hmem2 : ∀ b, Hp.get H2 b ≠ .no → b < n ∧ belG n (Hp.get H2 b) = true ∧ Hp.get H2 b = Hp.get s'.h b := fun b hno => by
    rw [hget b] at hno ⊢
    split at hno
    · rename_i hc
      rw [if_pos hc]
      exact ⟨hc.1, hc.2, rfl⟩
    · exact absurd rfl hno
  have hhas2 : ∀ b g', b < n → belG n g' = true → Hp.get s'.h b = g' → Hp.get H2 b = g' := fun b g' z1 z2 z3 => by
    rw [hget b, z3, if_pos ⟨z1, z2⟩]
  have hsim2 : Sim B0 r (.mk H2 u.n) w' := by
    refine ⟨hs.n, hs.lt, k2.low, fun b => ?_, fun b b' h1 h2 e => ?_, k2.ety⟩
    · rw [St.h_mk]
      by_cases hno : Hp.get H2 b = .no
      · rw [hno]; trivial
      · obtain ⟨z1, z2, z3⟩ := hmem2 b hno
        refine OkB.le (OkB.cutTo (m := n) ?_ z1 z2) hle rfl
        rw [z3]
        exact k2.ok b
    · rw [St.h_mk] at h1 h2
      obtain ⟨z1, _, z3⟩ := hmem2 b (live_ne h1)
      obtain ⟨y1, _, y3⟩ := hmem2 b' (live_ne h2)
      rw [z3] at h1
      rw [y3] at h2
      have i1 := ((k2.ok b).lt (live_ne h1)).1
      have i2 := ((k2.ok b').lt (live_ne h2)).1
      exact k2.inj b b' h1 h2 (by rw [hblk b i1 z1, hblk b' i2 y1]; exact e)
  have hst2 : Stp r (stE u.n lu lc) w r (.mk H2 u.n) w' := by
    refine ⟨.refl r, k3.os, k3.tape, k3.output, k3.size, fun x hx hnl => k3.keep x hx fun b hl => hnl b hl, fun _ h => .inl h, fun b hl => ?_⟩
    rw [St.h_mk] at hl
    obtain ⟨z1, _, z3⟩ := hmem2 b (live_ne hl)
    rw [z3] at hl
    have i1 := ((k2.ok b).lt (live_ne hl)).1
    rcases k3.old b hl with ⟨a, ha, e⟩ | h
    · exact .inl ⟨a, ha, by rw [← hblk b i1 z1]; exact e⟩
    · exact .inr (by rw [← hblk b i1 z1]; exact h)
  refine ⟨r, ((rel_cut _).1 _ q5 k1).le hle, ?_⟩
  refine Sim.frame hs (s := stE u.n lu lc) hsub hsim2 hst2 (u' := .mk (putH l' (delH lc u.h)) u.n) rfl fun b => ?_
  show Hp.get (putH l' (delH lc u.h)) b = .no ∨ Hp.get (putH l' (delH lc u.h)) b = Hp.get H2 b ∨ (Hp.get (putH l' (delH lc u.h)) b = Hp.get u.h b ∧ Hp.get (stE n lu lc).h b = .no)
  rcases putH_mem (h := delH lc u.h) (b := b) (l := l') with q | ⟨g', t1, t2⟩ | q
  · exact .inl q
  · obtain ⟨z1, z2⟩ := belL_mem q6 t1
    exact .inr (.inl (t2.trans (hhas2 b g' z1 z2 (inH_mem k6 t1)).symm))
  · rw [q]
    rcases delH_mem (h := u.h) (b := b) (l := lc) with p | ⟨p1, p2⟩
    · exact .inl p
    · rcases stE_mem (n := u.n) (b := b) (lu := lu) (lc := lc) with t | ⟨g', t1, t2⟩ | ⟨g', t1, t2⟩
      · exact .inr (.inr ⟨p1, t⟩)
      · exact absurd t1 (p2 g')
      · obtain ⟨z1, z2⟩ := belL_mem q3 t1
        exact .inr (.inl (p1.trans ((inH_mem h3 t1).trans (hhas2 b g' z1 z2 (inH_mem k5 t1)).symm)))
noncomputable def lookE (es : List Ent) (f : AV → St → RC) (ar : AV) (s : St) : RC := List.rec (motive := fun _ => RC) (f ar s) (fun e _ ih => Ent.rec (motive := fun _ => RC) (fun ar0 n lu lc v n' l' =>
  ifB (Nat.beq s.n n) (ifB (sameA ar ar0) (ifB (inH s.h lu) (ifB (inH s.h lc) (.ok v (.mk (putH l' (delH lc s.h)) n')) ih) ih) ih) ih)
  (fun ar0 n lu lc v l' => ifB (Nat.ble n s.n) (ifB (sameA ar ar0) (ifB (inH s.h lu) (ifB (inH s.h lc) (.ok v (.mk (putH l' (delH lc s.h)) s.n)) ih) ih) ih) ih) e) es
section
variable {E : Env} {B0 g : Nat}
theorem look_ok (hE : EOk E) {f : AV → St → RC} (hf : ∀ ar s v s', f ar s = .ok v s' → ∀ (r : Rho) (w : World) (args : Array Value), Base E r → Sim B0 r s w → RelL r ar args.toList → CallsF Tryz.prog g args w fun x w' => ∃ r', Rel r' v x ∧ Sim B0 r' s' w' ∧ Stp r s w r' s' w') :
    ∀ {es : List Ent}, (∀ e ∈ es, EntAt E.opq g e) → ∀ ar s v s', lookE es f ar s = .ok v s' → ∀ (r : Rho) (w : World) (args : Array Value), Base E r → Sim B0 r s w → RelL r ar args.toList → CallsF Tryz.prog g args w fun x w' => ∃ r', Rel r' v x ∧ Sim B0 r' s' w' ∧ Stp r s w r' s' w'
  | [], _, ar, s, v, s', h => hf ar s v s' h
  | .mk ar0 n lu lc v0 n' l' :: es, hes, ar, s, v, s', h => by
    have ih := look_ok hE hf (es := es) (fun e he => hes e (List.mem_cons_of_mem _ he)) ar s v s'
    have h : ifB (Nat.beq s.n n) (ifB (sameA ar ar0) (ifB (inH s.h lu) (ifB (inH s.h lc) (.ok v0 (.mk (putH l' (delH lc s.h)) n')) (lookE es f ar s)) (lookE es f ar s)) (lookE es f ar s)) (lookE es f ar s) = .ok v s' := h
    rcases h1 : Nat.beq s.n n with _ | _
    · rw [h1] at h; exact ih h
    rcases h2 : sameA ar ar0 with _ | _
    · rw [h1, h2] at h; exact ih h
    rcases h3 : inH s.h lu with _ | _
    · rw [h1, h2, h3] at h; exact ih h
    rcases h4 : inH s.h lc with _ | _
    · rw [h1, h2, h3, h4] at h; exact ih h
    rw [h1, h2, h3, h4] at h
    injection h with e1 e2
    subst e1 e2
    obtain rfl := Nat.eq_of_beq_eq_true h1
    obtain rfl := sameA_eq h2
    intro r w args hb hs hr
    have hsub := stE_sub (n := s.n) h3 h4
    have hk := hes _ (List.mem_cons_self ..) E B0 hE rfl r w args hb (hs.sub rfl hsub) hr
    refine hk.mono fun x w' ⟨r', s1, k1, k2, k3, k4, k5, k6⟩ => ⟨r', k1, ?_⟩
    refine Sim.frame hs hsub k2 k3 (u' := .mk (putH l' (delH lc s.h)) n') k4.symm fun b => ?_
    rw [St.h_mk]
    rcases putH_mem (h := delH lc s.h) (b := b) (l := l') with q | ⟨g', q1, q2⟩ | q
    · exact .inl q
    · exact .inr (.inl (q2.trans (inH_mem k6 q1).symm))
    · rw [q]
      rcases delH_mem (h := s.h) (b := b) (l := lc) with p | ⟨p1, p2⟩
      · exact .inl p
      · rcases stE_mem (n := s.n) (b := b) (lu := lu) (lc := lc) with t | ⟨g', t1, t2⟩ | ⟨g', t1, t2⟩
        · exact .inr (.inr ⟨p1, t⟩)
        · exact absurd t1 (p2 g')
        · exact .inr (.inl (p1.trans ((inH_mem h3 t1).trans (inH_mem k5 t1).symm)))
  | .lo ar0 n lu lc v0 l' :: es, hes, ar, s, v, s', h => by
    have ih := look_ok hE hf (es := es) (fun e he => hes e (List.mem_cons_of_mem _ he)) ar s v s'
    have h : ifB (Nat.ble n s.n) (ifB (sameA ar ar0) (ifB (inH s.h lu) (ifB (inH s.h lc) (.ok v0 (.mk (putH l' (delH lc s.h)) s.n)) (lookE es f ar s)) (lookE es f ar s)) (lookE es f ar s)) (lookE es f ar s) = .ok v s' := h
    rcases h1 : Nat.ble n s.n with _ | _
    · rw [h1] at h; exact ih h
    rcases h2 : sameA ar ar0 with _ | _
    · rw [h1, h2] at h; exact ih h
    rcases h3 : inH s.h lu with _ | _
    · rw [h1, h2, h3] at h; exact ih h
    rcases h4 : inH s.h lc with _ | _
    · rw [h1, h2, h3, h4] at h; exact ih h
    rw [h1, h2, h3, h4] at h
    injection h with e1 e2
    subst e1 e2
    obtain rfl := sameA_eq h2
    intro r w args hb hs hr
    exact lo_step hE (hes _ (List.mem_cons_self ..)) hb hs (Nat.le_of_ble_eq_true h1) h3 h4 hr
theorem fnOk_look (hE : EOk E) {fn : Fn} (hf : FnOk Tryz.prog E B0 g fn) {es : List Ent} (hes : ∀ e ∈ es, EntAt E.opq g e) : FnOk Tryz.prog E B0 g (.pr fun c ar s => lookE es (fun ar s => runFn fn c ar s) ar s) :=
  fun ih hih ar s v s' h => look_ok hE (f := fun ar s => runFn fn ih ar s) (fun ar s v s' h => hf ih hih ar s v s' h) hes ar s v s' h
end
/-- Short words for numbers and lists. -/
noncomputable def n64 (n : Nat) : AV := .i .i64 (.ofNat n)
noncomputable def n32 (n : Nat) : AV := .i .u32 (.ofNat n)
noncomputable def n8 (n : Nat) : AV := .i .u8 (.ofNat n)
noncomputable def m64 (n : Nat) : AV := .i .u64 (.ofNat n)
noncomputable def L (l : List AV) : AV := List.rec (motive := fun _ => AV) .nil (fun a _ ih => .cons a ih) l
/-- The start's blocks. -/
noncomputable def st0P : List (Nat × AV) := [(1, .ifc 465 (.p 18 0)), (18, .str [97, 114, 103, 117, 109, 101, 110, 116]), (3, .ifc 465 (.p 19 0)), (19, .str [115, 104, 111, 114, 116]), (5, .ifc 465 (.p 20 0)), (20, .str [98, 121, 116, 101, 115]), (7, .ifc 465 (.p 21 0)), (21, .str [98, 105, 103]), (4, .ifc 465 (.p 22 0)), (22, .str [111, 98, 106, 101, 99, 116]), (6, .ifc 465 (.p 23 0)), (23, .str [109, 101, 116, 104, 111, 100]), (8, .ifc 465 (.p 24 0)), (24, .str [102, 111, 114, 109, 97, 116]), (9, .ifc 465 (.p 25 0)), (25, .str [115, 116, 114, 105, 100, 101]), (10, .ifc 465 (.p 26 0)), (26, .str [102, 105, 108, 101]), (11, .ifc 465 (.p 27 0)), (27, .str [114, 111, 108, 101]), (12, .ifc 465 (.p 28 0)), (28, .str [112, 108, 97, 99, 101]), (13, .ifc 465 (.p 29 0)), (29, .str [115, 116, 97, 116, 101]), (14, .ifc 465 (.p 30 0)), (30, .str [115, 101, 114, 105, 97, 108]), (2, .ifc 465 (.p 31 0)), (31, .str [102, 117, 108, 108]), (0, .ifc 465 (.p 32 0)), (32, .str [103, 111, 110, 101]), (16, .ifc 465 (.p 33 0)), (33, .str [115, 104, 101, 101, 116])]
noncomputable def roB (p : Nat × AV) : Nat × GB := (p.1, .ro (Cs.put Cs.non 0 p.2))
noncomputable def st0L : BL := st0P.map roB
theorem st0P_ok : (st0P.all fun p => Nat.blt p.1 34 && belA 34 p.2) = true := by kernel_rfl
theorem st0L_mem {b : Nat} {g : GB} (h : (b, g) ∈ st0L) : b < 34 ∧ ∃ v, belA 34 v = true ∧ g = .ro (Cs.put Cs.non 0 v) := by
  obtain ⟨p, h1, h2⟩ := List.mem_map.1 h
  have := List.all_eq_true.1 st0P_ok p h1
  rw [Bool.and_eq_true] at this
  injection h2 with e1 e2
  exact ⟨by rw [← e1]; exact blt_lt this.1, p.2, this.2, e2.symm⟩
theorem st0_has : inH st0.h st0L = true := by kernel_rfl
theorem simL {w : World} {B : Nat} {A : Nat → Addr} {o : Nat → Value} (h : Sim B (rho0 w A o) st0 w) : Sim B (rho0 w A o) (stE 34 st0L []) w := by
  have e1 : (stE 34 st0L []).n = st0.n := Eq.trans (show (stE 34 st0L []).n = 34 from rfl) (show 34 = st0.n from rfl)
  exact Sim.sub h e1 fun b => stE_sub (h := st0.h) (n := 34) (lu := st0L) (lc := []) st0_has rfl b
/-- A call without arguments that answers a value of no place stands for itself in whatever state. -/
noncomputable def cloF (v : AV) : CallE → AV → St → RC := fun _ ar s => AV.isNil ar .bad (ifB (inH s.h st0L) (.ok v s) .bad)
theorem fnOk_clo {E : Env} {B0 g n' : Nat} {v : AV} (hE : EOk E) (h : EntOk g (.mk .nil 34 st0L [] v n' [])) (hv : belA 0 v = true) : FnOk Tryz.prog E B0 g (.pr (cloF v)) := fun ih _ ar s v1 s1 hrun r w args hb hs hr => by
  replace hrun : AV.isNil ar RC.bad (ifB (inH s.h st0L) (RC.ok v s) RC.bad) = RC.ok v1 s1 := hrun
  cases ar
  case nil =>
    replace hrun : ifB (inH s.h st0L) (RC.ok v s) RC.bad = RC.ok v1 s1 := hrun
    rcases h3 : inH s.h st0L with _ | _
    · rw [h3] at hrun; cases hrun
    rw [h3] at hrun
    injection hrun with e1 e2
    subst e1 e2
    have hlow := hs.low
    have hs0 : Sim w.heap.size (r.cut 34 34) (stE 34 st0L []) w := by
      refine ⟨rfl, fun b hb => hb.2, Nat.le_refl _, fun b => ?_, fun b b' hl _ _ => ?_, ⟨by have := hs.ety.1; omega, hs.ety.2⟩⟩
      · rcases stE_mem (n := 34) (b := b) (lu := st0L) (lc := []) with t | ⟨g', t1, t2⟩ | ⟨g', t1, t2⟩
        · rw [t]; trivial
        · cases t1
        · rw [t2]
          obtain ⟨q1, y, q2, rfl⟩ := st0L_mem t1
          have := hs.ok b
          rw [inH_mem h3 t1] at this
          obtain ⟨⟨a1, cs, ty, f, a2, a3, a4, a5⟩, a6, a7⟩ := this
          refine ⟨⟨⟨a1, q1⟩, cs, ty, f, a2, a3, fun q hq => ?_, a5⟩, by show r.blk b < _; omega, a7⟩
          obtain ⟨x, x1, x2⟩ := a4 q hq
          refine ⟨x, x1, (rel_cut _).1 _ ?_ x2⟩
          rcases Cs.get_put Cs.non 0 y q with e | ⟨_, e⟩ | ⟨_, e⟩
          · rw [e]; rfl
          · rw [e]; exact q2
          · rw [e, Cs.get_non]; rfl
      · rcases stE_mem (n := 34) (b := b) (lu := st0L) (lc := []) with t | ⟨g', t1, t2⟩ | ⟨g', t1, t2⟩
        · rw [t] at hl; exact hl.elim
        · cases t1
        · rw [t2] at hl
          obtain ⟨_, y, _, rfl⟩ := st0L_mem t1
          exact hl.elim
    have hb0 : Base ⟨18, none, E.opq⟩ (r.cut 34 34) := ⟨fun g hg => by
      obtain ⟨k1, k2, k3⟩ := hb.glob g (by rw [hE.1]; exact hg)
      exact ⟨⟨k1, Nat.lt_of_lt_of_le (show g < 18 from hg) (by decide)⟩, k2, k3⟩, fun r1 e => (by cases e), fun g hg => ⟨hb.few g hg, hg⟩, hb.inj, hb.opq⟩
    refine (h ⟨18, none, E.opq⟩ _ ⟨rfl, hE.2⟩ _ _ args hb0 hs0 hr).mono fun x w' ⟨r', s', k1, k2, k3, _⟩ => ?_
    obtain ⟨m1, m2⟩ := hs.more (Stp.below hs0 k3)
    exact ⟨r, ((rel_cut (n := 0) (m := 0) _).1 _ hv k1).le ⟨Nat.zero_le _, fun b hb => absurd hb.2 (by omega), fun b hb => absurd hb.2 (by omega), k3.le.opq.symm⟩, m1, m2⟩
  all_goals cases hrun
/-- A row that is laid over the table's: entries; a closed call; another rule. -/
inductive Rw where | es (l : List Ent) | clo (v : AV) | one (f : Fn)
noncomputable def esF (g : Nat) (es : List Ent) : Fn := .pr fun c ar s => lookE es (fun ar s => runFn (tabF g) c ar s) ar s
noncomputable def rwF (g : Nat) (r : Rw) : Fn := Rw.rec (motive := fun _ => Fn) (fun es => esF g es) (fun v => .pr (cloF v)) (fun f => f) r
noncomputable def findW (g : Nat) (rows : List (Nat × Rw)) : Fn := List.rec (motive := fun _ => Fn) (tabF g) (fun p _ ih => Prod.rec (motive := fun _ => Fn) (fun g' r => ifB (Nat.beq g g') (rwF g r) ih) p) rows
noncomputable def tabW (rows : List (Nat × Rw)) (g : Nat) : Fn := ifB (Nat.blt g 512) (findW g rows) .no
def RwOk (E : Env) (B0 g : Nat) : Rw → Prop
  | .es l => ∀ e ∈ l, EntOk g e
  | .clo v => belA 0 v = true ∧ ∃ n', EntOk g (.mk .nil 34 st0L [] v n' [])
  | .one f => FnOk Tryz.prog E B0 g f
def RowsOk (E : Env) (B0 : Nat) (rows : List (Nat × Rw)) : Prop := ∀ p ∈ rows, RwOk E B0 p.1 p.2
section
variable {E : Env} {B0 : Nat} {rows : List (Nat × Rw)}
theorem findW_ok (hE : EOk E) (g : Nat) : ∀ {rows : List (Nat × Rw)}, RowsOk E B0 rows → FnOk Tryz.prog E B0 g (findW g rows)
  | [], _ => tab_ok hE.1 g
  | (g', r) :: rows, h => by
    have e : findW g ((g', r) :: rows) = ifB (Nat.beq g g') (rwF g r) (findW g rows) := rfl
    rw [e]
    rcases hg : Nat.beq g g' with _ | _
    · exact findW_ok hE g fun p hp => h p (List.mem_cons_of_mem _ hp)
    · obtain rfl := Nat.eq_of_beq_eq_true hg
      have h0 := h _ (List.mem_cons_self ..)
      rw [ifB_true]
      cases r with
      | es l => exact fnOk_look hE (tab_ok hE.1 g) fun e he => (h0 e he).at
      | clo v => obtain ⟨h1, n', h2⟩ := h0; exact fnOk_clo hE h2 h1
      | one f => exact h0
theorem evalW_ok (hE : EOk E) (h : RowsOk E B0 rows) (n : Nat) : CAll Tryz.prog E B0 (evF (tabW rows) n) := evF_ok (fun g => by
  unfold tabW
  rcases hg : Nat.blt g 512 with _ | _
  · exact fnOk_no
  · exact findW_ok hE g h) (by unfold tabW; rfl) n
noncomputable def entB (r : RC) (lu : BL) (v : AV) (n' : Nat) (l' : BL) : Bool := RC.rec (motive := fun _ => Bool) false (fun v' s' => ifB (sameA v' v) (ifB (Nat.beq s'.n n') (ifB (inH s'.h lu) (inH s'.h l') false) false) false) r
theorem entry_of {k g n n' : Nat} {ar v : AV} {lu lc l' : BL} (hrows : ∀ (E : Env) (B0 : Nat), EOk E → RowsOk E B0 rows) (hg : g < yN) (h : entB (evF (tabW rows) k g ar (stE n lu lc)) lu v n' l' = true) : EntOk g (.mk ar n lu lc v n' l') := fun E B0 hE r w args hb hs hr => by
  cases he : evF (tabW rows) k g ar (stE n lu lc) with
  | bad => rw [he] at h; cases h
  | ok v' s' =>
    rw [he] at h
    have h9 : ifB (sameA v' v) (ifB (Nat.beq s'.n n') (ifB (inH s'.h lu) (inH s'.h l') false) false) false = true := h
    clear h
    rcases h1 : sameA v' v with _ | _
    · rw [h1] at h9; cases h9
    rcases h2 : Nat.beq s'.n n' with _ | _
    · rw [h1, h2] at h9; cases h9
    rcases h3 : inH s'.h lu with _ | _
    · rw [h1, h2, h3] at h9; cases h9
    rw [h1, h2, h3] at h9
    obtain rfl := sameA_eq h1
    obtain rfl := Nat.eq_of_beq_eq_true h2
    exact ((evalW_ok hE (hrows E B0 hE) k).1 g ar _ v' s' hg he r w args hb hs hr).mono fun x w' ⟨r', k1, k2, k3⟩ => ⟨r', s', k1, k2, k3, rfl, h3, h9⟩
noncomputable def enlB (n : Nat) (ar : AV) (r : RC) (lu lc : BL) (v : AV) (l' : BL) : Bool := ifB (Nat.ble 34 n) (ifB (belA n ar) (ifB (belL n lu) (ifB (belL n lc) (ifB (belA n v) (ifB (belL n l') (RC.rec (motive := fun _ => Bool) false (fun v' s' => ifB (sameA v' v) (ifB (inH s'.h lu) (inH s'.h l') false) false) r) false) false) false) false) false) false
theorem ifB_and {a b : Bool} (h : ifB a b false = true) : a = true ∧ b = true := by cases a <;> cases b <;> first | exact ⟨rfl, rfl⟩ | cases h
theorem entry_lo {k g n : Nat} {ar v : AV} {lu lc l' : BL} (hrows : ∀ (E : Env) (B0 : Nat), EOk E → RowsOk E B0 rows) (hg : g < yN) (h : enlB n ar (evF (tabW rows) k g ar (stE n lu lc)) lu lc v l' = true) : EntOk g (.lo ar n lu lc v l') := by
  obtain ⟨q1, h⟩ := ifB_and h
  obtain ⟨q2, h⟩ := ifB_and h
  obtain ⟨q3, h⟩ := ifB_and h
  obtain ⟨q4, h⟩ := ifB_and h
  obtain ⟨q5, h⟩ := ifB_and h
  obtain ⟨q6, h⟩ := ifB_and h
  refine ⟨⟨Nat.le_of_ble_eq_true q1, q2, q3, q4, q5, q6⟩, fun E B0 hE r w args hb hs hr => ?_⟩
  cases he : evF (tabW rows) k g ar (stE n lu lc) with
  | bad => rw [he] at h; cases h
  | ok v' s' =>
    rw [he] at h
    obtain ⟨h1, h8⟩ := ifB_and (show ifB (sameA v' v) (ifB (inH s'.h lu) (inH s'.h l') false) false = true from h)
    clear h
    obtain ⟨h3, h9⟩ := ifB_and h8
    obtain rfl := sameA_eq h1
    exact ((evalW_ok hE (hrows E B0 hE) k).1 g ar _ v' s' hg he r w args hb hs hr).mono fun x w' ⟨r', k1, k2, k3⟩ => ⟨r', s', k1, k2, k3, h3, h9⟩
theorem ents_nil {g : Nat} : ∀ e ∈ ([] : List Ent), EntOk g e := fun e h => by cases h
theorem ents_cons {g : Nat} {e : Ent} {es : List Ent} (h : EntOk g e) (k : ∀ e ∈ es, EntOk g e) : ∀ e' ∈ e :: es, EntOk g e' := fun e' hm => by
  rcases List.mem_cons.1 hm with rfl | hm
  · exact h
  · exact k e' hm
theorem rows_nil : RowsOk E B0 [] := fun p h => by cases h
theorem rows_cons {g : Nat} {x : Rw} {rows : List (Nat × Rw)} (h : RwOk E B0 g x) (k : RowsOk E B0 rows) : RowsOk E B0 ((g, x) :: rows) := fun p hm => by
  rcases List.mem_cons.1 hm with rfl | hm
  · exact h
  · exact k p hm
noncomputable def okB (r : RC) (v : AV) : Bool := RC.rec (motive := fun _ => Bool) false (fun v' _ => sameA v' v) r
/-- A run of a law from the start. -/
theorem law_run {w : World} {A : Nat → Addr} {o : Nat → Value} (hE : Errs w w.heap.size allE A) (hy : ETy0 w.heap.size w) (hG : ∀ k ∈ allE, ∃ c t, w.heap[gno k]? = some (.cells c t (0, 0))) (hgood : Good o) (hrows : RowsOk (env0 o) w.heap.size rows) {k g : Nat} (hg : g < yN) {ar : AV} (h : okB (evF (tabW rows) k g ar (stE 34 st0L [])) (.b true) = true) {args : Array Value} (hr : RelL (rho0 w A o) ar args.toList) :
    CallsF Tryz.prog g args w fun x w' => x = .bool true ∧ Below w.heap.size w w' := by
  have hs := simL (sim0 (o := o) hE (Nat.le_refl _) hy hG)
  cases he : evF (tabW rows) k g ar (stE 34 st0L []) with
  | bad => rw [he] at h; cases h
  | ok v' s' =>
    rw [he] at h
    obtain rfl := sameA_eq (show sameA v' (.b true) = true from h)
    exact ((evalW_ok ⟨rfl, hgood⟩ hrows k).1 g ar _ _ s' hg he (rho0 w A o) w args (base0 hE) hs hr).mono fun x w' ⟨r', k1, k2, k3⟩ => ⟨k1, Stp.below hs k3⟩
end
end Go.Proofs.YtenpbpgoglepfaaGreatDoor
namespace Go.Proofs.YtenpbpgoglepfaaGreatDoor
open Go.RowKit

/-- Place: any number as one from 0 to n - 1. -/
theorem place_any (v n : Int) (w : World) (hn : 0 < n) (hn' : n ≤ 4611686018427387904) :
    Calls Tryz.prog 8 #[.int .i64 v, .int .i64 n] w fun e w' => e = .returned (.int .i64 (v % n)) ∧ w = w' := by
  have h0 : (n == 0) = false := by simp; omega
  obtain ⟨h1, h2, h3⟩ := place_num v n hn
  by_cases c : v.tmod n < 0
  · rw [if_pos c] at h1
    have H := Lib.hid h1
    clear h1
    go_enter Tryz.func8, Tryz.ntmps8
    go_wp2
    go_ret
    exact ⟨by rw [H.out]; rfl, rfl⟩
  · rw [if_neg c] at h1
    have H := Lib.hid h1
    clear h1
    go_enter Tryz.func8, Tryz.ntmps8
    go_wp2
    go_ret
    exact ⟨by rw [H.out]; rfl, rfl⟩

end Go.Proofs.YtenpbpgoglepfaaGreatDoor
namespace Go.Proofs.YtenpbpgoglepfaaGreatDoor
open Go.RowKit
set_option linter.unusedVariables false
/-- The values of which nothing is known, by their numbers. -/
def markA : Nat → AV
  | 0 => .nil
  | k + 1 => .cons .nil (markA k)
theorem num_mark : ∀ k, AV.num (markA k) = k
  | 0 => rfl
  | k + 1 => by show AV.num (markA k) + 1 = k + 1; rw [num_mark k]
theorem rel_mark {r : Rho} {v : Value} : ∀ k, Rel r (markA k) v ↔ v = r.opq k
  | 0 => by simp only [markA, Rel]
  | k + 1 => by simp only [markA, Rel, num_mark]
noncomputable def plFind (l : List (Nat × Nat × Nat)) (x y : AV) (s : St) : RC := List.rec (motive := fun _ => RC) .bad (fun e _ ih => Prod.rec (motive := fun _ => RC) (fun k p => Prod.rec (motive := fun _ => RC) (fun m q => ifB (sameA x (markA k)) (ifB (sameA y (n64 m)) (.ok (n64 q) s) ih) ih) p) e) l
noncomputable def prPl (l : List (Nat × Nat × Nat)) : CallE → AV → St → RC := fun _ ar s => AV.onC ar .bad fun x t => AV.onC t .bad fun y z => AV.isNil z .bad (plFind l x y s)
def PlOk (o : Nat → Value) (e : Nat × Nat × Nat) : Prop := ∃ n : Int, o e.1 = .int .i64 n ∧ n % (e.2.1 : Int) = (e.2.2 : Int) ∧ 0 < e.2.1 ∧ e.2.1 ≤ 4611686018427387904
theorem plFind_ok {o : Nat → Value} {x y v : AV} {s s' : St} : ∀ {l : List (Nat × Nat × Nat)}, (∀ e ∈ l, PlOk o e) → plFind l x y s = .ok v s' → ∃ k m q, PlOk o (k, m, q) ∧ x = markA k ∧ y = n64 m ∧ v = n64 q ∧ s' = s
  | [], _, h => by cases h
  | (k, m, q) :: l, hl, h => by
    have ih := plFind_ok (l := l) (x := x) (y := y) (v := v) (s := s) (s' := s') fun e he => hl e (List.mem_cons_of_mem _ he)
    have h : ifB (sameA x (markA k)) (ifB (sameA y (n64 m)) (RC.ok (n64 q) s) (plFind l x y s)) (plFind l x y s) = .ok v s' := h
    rcases h1 : sameA x (markA k) with _ | _
    · rw [h1] at h; exact ih h
    rcases h2 : sameA y (n64 m) with _ | _
    · rw [h1, h2] at h; exact ih h
    rw [h1, h2] at h
    injection h with e1 e2
    exact ⟨k, m, q, hl _ (List.mem_cons_self ..), sameA_eq h1, sameA_eq h2, e1.symm, e2.symm⟩
theorem prPl_ok {E : Env} {B0 : Nat} {l : List (Nat × Nat × Nat)} (hl : ∀ e ∈ l, PlOk E.opq e) : FnOk Tryz.prog E B0 8 (.pr (prPl l)) := fun ih _ ar s v s' hrun r w args hb hs hr => by
  have hent : ∀ args w, (callFunc 8 args).run Tryz.prog w = .ok (.enter 8 args) w := ent_of Tryz.func8 (by kernel_rfl) rfl
  replace hrun : AV.onC ar RC.bad (fun x t => AV.onC t RC.bad fun y z => AV.isNil z RC.bad (plFind l x y s)) = .ok v s' := hrun
  cases ar
  case cons x t =>
    replace hrun : AV.onC t RC.bad (fun y z => AV.isNil z RC.bad (plFind l x y s)) = .ok v s' := hrun
    cases t
    case cons y z =>
      cases z
      case nil =>
        replace hrun : plFind l x y s = .ok v s' := hrun
        obtain ⟨k, m, q, ⟨n, h1, h2, h3, h4⟩, rfl, rfl, rfl, rfl⟩ := plFind_ok hl hrun
        obtain ⟨a, c, rfl, k1, k2⟩ := args_two hr
        rw [rel_mark, hb.opq] at k1
        have k1 : a = .int .i64 n := k1.trans h1
        have k2 : c = .int .i64 (m : Int) := k2
        subst k1 k2
        refine .inl ⟨hent _ _, (place_any n m w (by have : 0 < m := h3; omega) (by have : m ≤ 4611686018427387904 := h4; omega)).mono fun e w' ⟨he, hw⟩ => ⟨_, he, r, ?_, hw ▸ hs, hw ▸ .refl r s' w⟩⟩
        show Value.int .i64 (n % (m : Int)) = .int .i64 (.ofNat q)
        rw [show n % (m : Int) = (q : Int) from h2]
        rfl
      all_goals cases hrun
    all_goals cases hrun
  all_goals cases hrun
theorem pl_nil {o : Nat → Value} : ∀ e ∈ ([] : List (Nat × Nat × Nat)), PlOk o e := fun e h => by cases h
theorem pl_cons {o : Nat → Value} {e : Nat × Nat × Nat} {l : List (Nat × Nat × Nat)} (h : PlOk o e) (k : ∀ e ∈ l, PlOk o e) : ∀ e' ∈ e :: l, PlOk o e' := fun e' hm => by
  rcases List.mem_cons.1 hm with rfl | hm
  · exact h
  · exact k e' hm
theorem callsF_calls {P : Program} {g : FuncId} {args : Array Value} {w : World} (h : CallsF P g args w fun x w' => x = .bool true ∧ Below w.heap.size w w') (hent : (callFunc g args).run P w = .ok (.enter g args) w) : Calls P g args w fun e w' => e = .returned (.bool true) ∧ Below w.heap.size w w' := by
  rcases h with ⟨_, h⟩ | ⟨x, w', e, _⟩
  · exact h.mono fun e w' ⟨v, he, hv, hb⟩ => ⟨by rw [he, hv], hb⟩
  · rw [hent] at e; cases e
end Go.Proofs.YtenpbpgoglepfaaGreatDoor
namespace Go.Proofs.YtenpbpgoglepfaaGreatDoor
open Go.RowKit
set_option linter.unusedVariables false

/-- Each of a list, with the others. -/
def splitsA {α : Type} : List α → List (α × List α)
  | [] => []
  | a :: l => (a, l) :: (splitsA l).map fun p => (p.1, a :: p.2)
theorem splitsA_mid {α : Type} (x : α) : ∀ (A B : List α), (x, A ++ B) ∈ splitsA (A ++ x :: B)
  | [], B => List.mem_cons_self ..
  | a :: A, B => List.mem_cons_of_mem _ (List.mem_map.2 ⟨_, splitsA_mid x A B, rfl⟩)
/-- A map's entries, key and value. -/
def pairsA : AV → Option (List (AV × AV))
  | .nil => some []
  | .cons k (.cons v l) => (pairsA l).map ((k, v) :: ·)
  | _ => none
theorem pairs_rel {r : Rho} : ∀ (es : List MapEntry) (l : AV) (ps : List (AV × AV)), RelL r l (es.flatMap fun e => [e.key, e.val]) → pairsA l = some ps →
    ∃ T : List ((AV × AV) × MapEntry), T.map (·.1) = ps ∧ T.map (·.2) = es ∧ ∀ t ∈ T, Rel r t.1.1 t.2.key ∧ Rel r t.1.2 t.2.val
  | [], l, ps, h, hp => by
    cases l with
    | nil => cases hp; exact ⟨[], rfl, rfl, fun t ht => by cases ht⟩
    | cons a t =>
      simp only [RelL] at h
      obtain ⟨v, vs, e, _⟩ := h
      cases e
    | _ => simp [RelL] at h
  | e :: es, l, ps, h, hp => by
    cases l with
    | nil => simp [RelL] at h
    | cons k t =>
      simp only [RelL] at h
      obtain ⟨v1, vs1, q1, q2, q3⟩ := h
      simp only [List.flatMap_cons, List.cons_append, List.nil_append, List.cons.injEq] at q1
      obtain ⟨x1, x2⟩ := q1
      subst x1 x2
      cases t with
      | cons v l2 =>
        simp only [RelL] at q3
        obtain ⟨v2, vs2, p1, p2, p3⟩ := q3
        simp only [List.cons.injEq] at p1
        obtain ⟨x3, x4⟩ := p1
        subst x3 x4
        simp only [pairsA, Option.map_eq_some_iff] at hp
        obtain ⟨ps2, hp2, rfl⟩ := hp
        obtain ⟨T, t1, t2, t3⟩ := pairs_rel es l2 ps2 p3 hp2
        exact ⟨((k, v), e) :: T, by simp [t1], by simp [t2], fun t ht => by
          rcases List.mem_cons.1 ht with rfl | ht
          · exact ⟨q2, p2⟩
          · exact t3 t ht⟩
      | _ => simp [RelL] at q3
    | _ => simp [RelL] at h
theorem left_push (es : Array MapEntry) (vis : Array Nat) (x : Nat) : (leftOf es (vis.push x)).toList = (leftOf es vis).toList.filter fun e => !(e.born == x) := by
  unfold leftOf
  rw [Array.toList_filter, Array.toList_filter, List.filter_filter]
  congr 1
  funext e
  rw [Array.contains_push, Bool.not_or, Bool.and_comm]
theorem filter_mid (x : MapEntry) (A B : List MapEntry) (h : ((A ++ x :: B).map (·.born)).Nodup) : (A ++ x :: B).filter (fun e => !(e.born == x.born)) = A ++ B := by
  rw [List.map_append, List.map_cons, List.nodup_append] at h
  obtain ⟨_, h2, h3⟩ := h
  rw [List.nodup_cons] at h2
  rw [List.filter_append, List.filter_cons_of_neg (by simp)]
  congr 1
  · refine List.filter_eq_self.2 fun e he => ?_
    have := h3 e.born (List.mem_map.2 ⟨e, he, rfl⟩) x.born (List.mem_cons_self ..)
    simpa using this
  · refine List.filter_eq_self.2 fun e he => ?_
    have : e.born ≠ x.born := fun e2 => h2.1 (List.mem_map.2 ⟨e, he, e2⟩)
    simpa using this

/-- A round of an entry. -/
noncomputable def rndM (xi xc : X) (dnx den : D) (mid post : List I) (ib b : Nat) (c : CallE) (bd : Fr → St → R) (e : AV × AV) (fr : Fr) (s : St) : R :=
  rmpIt xi ib fr (evL mid c (D.put dnx (.tup (.cons (.b true) (.cons e.1 (.cons e.2 .nil)))) fr) (.mk (Hp.put s.h b .no) s.n) fun fr4 s4 =>
    AV.onB (X.ev xc fr4) .bad fun t => ifB t (rmpIt xi ib fr4 (evL post c (D.put den (.tup (.cons e.1 (.cons e.2 .nil))) fr4) s4 bd)) .bad)
noncomputable def mapBack (b : Nat) (l : AV) (s : St) : St := .mk (Hp.put s.h b (.mp l)) s.n
/-- Behind a round. -/
noncomputable def nextM (b1 b2 b : Nat) (l : AV) (go : Fr → St → List R) : R → List R
  | .bad => [.bad]
  | .nrm fr s => go fr (mapBack b l s)
  | .ex id fr s => ifB (Nat.beq id b2) (go fr (mapBack b l s)) (ifB (Nat.beq id b1) [.nrm fr (mapBack b l s)] [.ex id fr (mapBack b l s)])
  | .rt fr s => [.rt fr (mapBack b l s)]
/-- All that a loop may come to, from the head of a round on. -/
noncomputable def headM (last : Fr → St → R) (rnd : AV × AV → Fr → St → R) (nxt : (Fr → St → List R) → R → List R) : Nat → List (AV × AV) → Fr → St → List R
  | _, [], fr, s => [last fr s]
  | 0, _ :: _, _, _ => [.bad]
  | n + 1, e :: l, fr, s => (splitsA (e :: l)).flatMap fun p => nxt (headM last rnd nxt n p.2) (rnd p.1 fr s)
theorem rmpIt_or (xi : X) (ib : Nat) (fr : Fr) (k : R) : rmpIt xi ib fr k = .bad ∨ (X.ev xi fr = .p ib 0 ∧ rmpIt xi ib fr k = k) := by
  unfold rmpIt
  cases hx : X.ev xi fr <;> try exact .inl rfl
  rename_i b o
  show ifB (Nat.beq b ib) (ifB (Nat.beq o 0) k .bad) .bad = .bad ∨ _
  rcases hq : Nat.beq b ib with _ | _
  · exact .inl rfl
  rcases hq2 : Nat.beq o 0 with _ | _
  · exact .inl rfl
  refine .inr ⟨by rw [Nat.eq_of_beq_eq_true hq, Nat.eq_of_beq_eq_true hq2], ?_⟩
  show ifB (Nat.beq b ib) (ifB (Nat.beq o 0) k .bad) .bad = k
  rw [hq, hq2]
  rfl
section
variable {P : Program} {NG : Env} {B0 N : Nat} {ro : Option Nat} {C : CallE → Prop} {r : Rho} {s : St} {w w3 : World}
/-- A block that nobody knows is another one from here on. -/
theorem Sim.unk (h : Sim B0 r s w) {y : Nat} (hy : ∀ b, Hp.get s.h b ≠ .no → r.blk b ≠ y) (he : 15 ≠ y) (hsz : w3.heap.size = w.heap.size) (ho : ∀ x, x ≠ y → w3.heap[x]? = w.heap[x]?) : Sim B0 r s w3 :=
  ⟨h.n, h.lt, by rw [hsz]; exact h.low, fun b => by
    by_cases hno : Hp.get s.h b = .no
    · rw [hno]; trivial
    · exact OkB.le (h.ok b) (.refl r) (ho _ (hy b hno)), h.inj, h.ety.to (ho _ he)⟩
theorem Stp.unk {r1 : Rho} {s1 : St} {w1 : World} (k : Stp r1 s1 w1 r s w) {y : Nat} (hy : w1.heap.size ≤ y) (hsz : w3.heap.size = w.heap.size) (ho : ∀ x, x ≠ y → w3.heap[x]? = w.heap[x]?) (hos : w3.os = w.os) (htp : w3.tape = w.tape) (hou : w3.output = w.output) : Stp r1 s1 w1 r s w3 :=
  ⟨k.le, hos.trans k.os, htp.trans k.tape, hou.trans k.output, by rw [hsz]; exact k.size, fun x hx hn => (ho x (by omega)).trans (k.keep x hx hn), k.new, k.old⟩
theorem DfOk.unk {lo : Nat} {l : List Deferred} (h : DfOk lo r s w l) {y : Nat} {m : Option Nat} {a1 a3 : Nat} {a2 : Array Nat} (hi : w.heap[y]? = some (.mapIter m a1 a2 a3)) (hsz : w3.heap.size = w.heap.size) (ho : ∀ x, x ≠ y → w3.heap[x]? = w.heap[x]?) : DfOk lo r s w3 l :=
  ⟨by rw [hsz]; exact h.hlo, fun d hd => by
    obtain ⟨D, h1, h0, h2, h3⟩ := h.all d hd
    refine ⟨D, h1, h0, (ho D fun e => ?_).trans h2, h3⟩
    rw [e, hi] at h2
    exact absurd h2 (by simp), h.ne⟩
theorem DfOk.less {lo : Nat} {l : List Deferred} {s' : St} (h : DfOk lo r s w l) (hl : ∀ b, (Hp.get s'.h b).live → (Hp.get s.h b).live) : DfOk lo r s' w l :=
  ⟨h.hlo, fun d hd => by
    obtain ⟨D, h1, h0, h2, h3⟩ := h.all d hd
    exact ⟨D, h1, h0, h2, fun b hb => h3 b (hl b hb)⟩, h.ne⟩
/-- The head of a round. -/
structure LoopAt (NG : Env) (B0 N lo : Nat) (r1 : Rho) (s1 : St) (w1 : World) (b ib itb bm : Nat) (l : AV) (es : Array MapEntry) (cl : Nat) (vis : Array Nat) (fr : Fr) (s : St) (r : Rho) (w : World) (a : Act) : Prop where
  sim : Sim B0 r s w
  stp : Stp r1 s1 w1 r s w
  fra : FrR N r fr a
  df : DfOk lo r s w a.defers
  mp : Hp.get s.h b = .mp l
  hasb : r.has b
  blk : r.blk b = bm
  itr : r.has ib ∧ r.blk ib = itb ∧ r.off ib = 0
  it : w.heap[itb]? = some (.mapIter (some bm) cl vis cl)
  map : w.heap[bm]? = some (.map es cl)
  nit : ∀ b', Hp.get s.h b' ≠ .no → r.blk b' ≠ itb
theorem head_ok {ck : Oper → I → Bool} (hck : ∀ o i, ck o i = true → SndI P NG B0 N C ro o i) {ops1 ops2 : Array Oper} {os1 os2 : List Oper} {o1 o2 : Oper} (e1 : ops1.toList = o1 :: os1) (e2 : ops2.toList = o2 :: os2)
    {xi xc : X} {dnx den : D} {mid post : List I} {v : Operand} (gg1 : o1.guard = none) {p1 : Operand} (hop1 : o1.op = .next p1 false) (k1 : xB NG N p1 xi = true) (d1 : dB o1.dst dnx = true)
    (gg2 : o2.guard = none) {p2 : Operand} (hop2 : o2.op = .entry p2) (k2 : xB NG N p2 xi = true) (d2 : dB o2.dst den = true) (hmid : okL ck N ops1 os1 mid = true) (hpost : okL ck N ops2 os2 post = true) (hv : xB NG N v xc = true)
    {id1 id2 b1 b2 : Nat} {bd : Code} {q : Go.Proofs.YtenpbpgoglepfaaGreatDoor.C} (hbd : CSnd P NG B0 N C ro bd q) {c : CallE} (hc : C c) {lo : Nat} {r1 : Rho} {s1 : St} {w1 : World} (hb1 : Base NG r1) {b ib itb bm : Nat} {l : AV} {es : Array MapEntry} {cl : Nat}
    (hst : MapKept.Stamped es cl) (hitb : w1.heap.size ≤ itb) (hB0 : B0 ≤ w1.heap.size) (hb65 : b < 65536) {Q : Exit → Act → World → Prop} : ∀ (n : Nat) (T : List ((AV × AV) × MapEntry)) (vis : Array Nat) (fr : Fr) (s : St) (r : Rho) (w : World) (a : Act), T.length ≤ n →
    T.map (·.2) = (leftOf es vis).toList → (∀ t ∈ T, Rel r t.1.1 t.2.key ∧ Rel r t.1.2 t.2.val) → LoopAt NG B0 N lo r1 s1 w1 b ib itb bm l es cl vis fr s r w a →
    (∀ out ∈ headM (rmpLast xi dnx mid xc ib c) (rndM xi xc dnx den mid post ib b c (evC q c)) (nextM b1 b2 b l) n (T.map (·.1)) fr s, Post B0 N lo r1 s1 w1 out Q) →
    Code.roundsIn (Wd ro) 0 P (.seq (.region id1 ops1 false) (.seq (.cond v .skip (.exit b1)) (.block b2 (.seq (.region id2 ops2 false) bd)))) (Exit.inBlock b1 Q) (n + 1) a w := by
  intro n
  induction n with
  | zero =>
    intro T vis fr s r w a hlen hT hrel L hp
    obtain rfl : T = [] := List.length_eq_zero_iff.1 (by omega)
    have hp := hp _ (List.mem_singleton.2 rfl)
    rw [roundsIn_succ]
    refine rmp_last hck e1 gg1 hop1 k1 d1 hmid hv hc (hb1.le L.stp.le) L.sim L.fra L.df L.itr.2.2 ?_ (Post.later hp L.stp)
    rw [L.itr.2.1]
    rcases run_next_at (P := P) w o1.type itb bm cl cl vis es cl L.it L.map (fun y hy => hst.1 y hy) (Nat.le_refl _) with ⟨_, h⟩ | ⟨y, hy, _⟩
    · exact h
    · rw [← hT] at hy; cases hy
  | succ n ih =>
    intro T vis fr s r w a hlen hT hrel L hp
    have hb := hb1.le L.stp.le
    cases T with
    | nil =>
      have hp := hp _ (List.mem_singleton.2 rfl)
      rw [roundsIn_succ]
      refine rmp_last hck e1 gg1 hop1 k1 d1 hmid hv hc hb L.sim L.fra L.df L.itr.2.2 ?_ (Post.later hp L.stp)
      rw [L.itr.2.1]
      rcases run_next_at (P := P) w o1.type itb bm cl cl vis es cl L.it L.map (fun y hy => hst.1 y hy) (Nat.le_refl _) with ⟨_, h⟩ | ⟨y, hy, _⟩
      · exact h
      · rw [← hT] at hy; cases hy
    | cons t0 T0 =>
    rcases run_next_at (P := P) w o1.type itb bm cl cl vis es cl L.it L.map (fun y hy => hst.1 y hy) (Nat.le_refl _) with ⟨h, _⟩ | ⟨en, hmem, wd, hwd, hnx⟩
    · have : (leftOf es vis).toList = [] := by rw [← List.length_eq_zero_iff, Array.length_toList]; exact h
      rw [this] at hT
      cases hT
    rw [← hT] at hmem
    obtain ⟨t, ht, rfl⟩ := List.mem_map.1 hmem
    obtain ⟨T1, T2, hTT⟩ := List.append_of_mem ht
    have hp' : ∀ out ∈ nextM b1 b2 b l (headM (rmpLast xi dnx mid xc ib c) (rndM xi xc dnx den mid post ib b c (evC q c)) (nextM b1 b2 b l) n ((T1 ++ T2).map (·.1))) (rndM xi xc dnx den mid post ib b c (evC q c) t.1 fr s), Post B0 N lo r1 s1 w1 out Q := fun out ho => by
      refine hp out ?_
      rw [List.map_cons]
      show out ∈ (splitsA (t0.1 :: T0.map (·.1))).flatMap _
      refine List.mem_flatMap.2 ⟨(t.1, (T1 ++ T2).map (·.1)), ?_, ho⟩
      have : t0.1 :: T0.map (·.1) = T1.map (·.1) ++ t.1 :: T2.map (·.1) := by
        rw [← List.map_cons (f := fun x : (AV × AV) × MapEntry => x.1), hTT, List.map_append, List.map_cons]
      rw [this, List.map_append]
      exact splitsA_mid _ _ _
    clear hp
    have hnod : ((t0 :: T0).map fun x => x.2.born).Nodup := by
      have h1 : ((leftOf es vis).toList.map (·.born)).Nodup := by
        refine hst.2.1.sublist (List.Sublist.map _ ?_)
        unfold leftOf
        rw [Array.toList_filter]
        exact List.filter_sublist
      rw [← hT, List.map_map] at h1
      exact h1
    have hT' : (T1 ++ T2).map (·.2) = (leftOf es (vis.push t.2.born)).toList := by
      have hL : (leftOf es vis).toList = T1.map (·.2) ++ t.2 :: T2.map (·.2) := by rw [← hT, hTT, List.map_append, List.map_cons]
      rw [left_push, hL, filter_mid, List.map_append]
      rw [hTT] at hnod
      simpa [List.map_append, List.map_map, Function.comp_def] using hnod
    have hrel' : ∀ t' ∈ T1 ++ T2, Rel r t'.1.1 t'.2.key ∧ Rel r t'.1.2 t'.2.val := fun t' h' => hrel t' (by
      rw [hTT]
      rcases List.mem_append.1 h' with h | h
      · exact List.mem_append.2 (.inl h)
      · exact List.mem_append.2 (.inr (List.mem_cons_of_mem _ h)))
    obtain ⟨hk, hvv⟩ := hrel t ht
    have hlen' : (T1 ++ T2).length ≤ n := by
      have : (t0 :: T0).length = (T1 ++ t :: T2).length := by rw [hTT]
      simp only [List.length_cons, List.length_append] at this hlen ⊢
      omega
    have hes : t.2 ∈ es.toList := by
      have : t.2 ∈ (leftOf es vis).toList := by rw [← hT]; exact List.mem_map.2 ⟨t, ht, rfl⟩
      unfold leftOf at this
      rw [Array.toList_filter] at this
      exact (List.mem_filter.1 this).1
    -- the iterator goes on
    generalize hw3 : ChangeMaps.setBlock wd itb (.mapIter (some bm) cl (vis.push t.2.born) cl) = w3 at hnx
    have hheap : w3.heap = w.heap.setIfInBounds itb (.mapIter (some bm) cl (vis.push t.2.born) cl) := by
      rw [← hw3]; rcases hwd with rfl | rfl <;> rfl
    have hsz3 : w3.heap.size = w.heap.size := by rw [hheap]; simp
    have hitlt : itb < w.heap.size := (Array.getElem?_eq_some_iff.1 L.it).1
    have ho3 : ∀ x, x ≠ itb → w3.heap[x]? = w.heap[x]? := fun x hx => by
      rw [hheap, Array.getElem?_setIfInBounds, if_neg (Ne.symm hx)]
    have hit3 : w3.heap[itb]? = some (.mapIter (some bm) cl (vis.push t.2.born) cl) := by
      rw [hheap, Array.getElem?_setIfInBounds, if_pos rfl, if_pos hitlt]
    have hbmit : bm ≠ itb := fun e => by
      have := L.map
      rw [e, L.it] at this
      cases this
    have hmap3 : w3.heap[bm]? = some (.map es cl) := (ho3 bm hbmit).trans L.map
    have hety := L.sim.ety
    have hlow := L.sim.low
    have hsv : Sim B0 r s w3 := L.sim.unk L.nit (by have := hety.1; omega) hsz3 ho3
    have hstv : Stp r1 s1 w1 r s w3 := L.stp.unk hitb hsz3 ho3 (by rw [← hw3]; rcases hwd with rfl | rfl <;> rfl) (by rw [← hw3]; rcases hwd with rfl | rfl <;> rfl) (by rw [← hw3]; rcases hwd with rfl | rfl <;> rfl)
    have hdfv : DfOk lo r s w3 a.defers := L.df.unk L.it hsz3 ho3
    -- the map is hidden
    have hlive3 : ∀ b', (Hp.get (Hp.put s.h b .no) b').live → b' ≠ b ∧ (Hp.get s.h b').live := fun b' hl => by
      obtain ⟨n1, e1⟩ := live_no hl
      rw [e1] at hl
      exact ⟨n1, hl⟩
    obtain ⟨s3, hs3e⟩ : ∃ s3, s3 = St.mk (Hp.put s.h b .no) s.n := ⟨_, rfl⟩
    have hs3 : Sim B0 r s3 w3 := by rw [hs3e]; exact hsv.drop b
    have hsub : ∀ b', Hp.get s3.h b' = .no ∨ Hp.get s3.h b' = Hp.get s.h b' := fun b' => by
      rw [hs3e, St.h_mk]
      rcases Hp.get_put s.h b .no b' with e | ⟨_, e⟩ | ⟨_, e⟩
      · exact .inl e
      · exact .inl e
      · exact .inr e
    have hno3 : Hp.get s3.h b = .no := by
      rw [hs3e, St.h_mk, Hp.get_put_lt _ hb65, if_pos rfl]
    have hnlit : ∀ b', (Hp.get s3.h b').live → r.blk b' ≠ itb := fun b' hl => by
      rcases hsub b' with e | e
      · rw [e] at hl; exact hl.elim
      · rw [e] at hl; exact L.nit b' (live_ne hl)
    have hnlm : ∀ b', (Hp.get s3.h b').live → r.blk b' ≠ bm := fun b' hl e => by
      rw [hs3e, St.h_mk] at hl
      obtain ⟨h1, h2⟩ := hlive3 b' hl
      exact h1 (L.sim.inj b' b h2 (by rw [L.mp]; trivial) (by rw [e, L.blk]))
    have kept : ∀ {r' : Rho} {s4 : St} {w4 : World}, Stp r s3 w3 r' s4 w4 → w4.heap[itb]? = some (.mapIter (some bm) cl (vis.push t.2.born) cl) ∧ w4.heap[bm]? = some (.map es cl) := fun k =>
      ⟨(k.keep _ (by omega) hnlit).trans hit3, (k.keep _ (by have := (Array.getElem?_eq_some_iff.1 hmap3).1; exact this) hnlm).trans hmap3⟩
    have back : ∀ {r' : Rho} {s6 : St} {w6 : World}, Sim B0 r' s6 w6 → Stp r s3 w3 r' s6 w6 → Sim B0 r' (mapBack b l s6) w6 ∧ Stp r s w3 r' (mapBack b l s6) w6 := fun {r' s6 w6} k1 k2 => by
      refine hsv.frame hsub k1 k2 rfl fun b' => ?_
      show Hp.get (Hp.put s6.h b (.mp l)) b' = .no ∨ Hp.get (Hp.put s6.h b (.mp l)) b' = Hp.get s6.h b' ∨ (Hp.get (Hp.put s6.h b (.mp l)) b' = Hp.get s.h b' ∧ Hp.get s3.h b' = .no)
      rcases Hp.get_put s6.h b (.mp l) b' with e | ⟨rfl, e⟩ | ⟨_, e⟩
      · exact .inl e
      · exact .inr (.inr ⟨e.trans L.mp.symm, hno3⟩)
      · exact .inr (.inl e)
    have hDf : ∀ {r6 : Rho} {s6 : St} {w6 : World} {l6 : List Deferred}, Stp r s3 w3 r6 s6 w6 → DfOk lo r6 s6 w6 l6 → DfOk lo r6 (mapBack b l s6) w6 l6 := fun {r6 s6 w6 l6} k1 k2 => by
      refine k2.more (kept k1).2 fun b' hl => ?_
      have hl : (Hp.get (Hp.put s6.h b (.mp l)) b').live := hl
      rcases live_put hl with ⟨rfl, _⟩ | ⟨_, e⟩
      · right
        rw [(k1.le.same b' L.hasb).2.1, L.blk]
      · left; rw [e] at hl; exact hl
    rw [roundsIn_succ]
    obtain ⟨y1, y2, y3⟩ := size_cons e1
    obtain ⟨z1, z2, z3⟩ := size_cons e2
    have bad : ∀ {go : Fr → St → List R}, (∀ out ∈ nextM b1 b2 b l go .bad, Post B0 N lo r1 s1 w1 out Q) → False := fun h => h .bad (List.mem_singleton.2 rfl)
    have er : rndM xi xc dnx den mid post ib b c (evC q c) t.1 fr s = rmpIt xi ib fr (evL mid c (D.put dnx (.tup (.cons (.b true) (.cons t.1.1 (.cons t.1.2 .nil)))) fr) s3 fun fr4 s4 =>
      AV.onB (X.ev xc fr4) .bad fun t' => ifB t' (rmpIt xi ib fr4 (evL post c (D.put den (.tup (.cons t.1.1 (.cons t.1.2 .nil))) fr4) s4 (evC q c))) .bad) := by rw [hs3e]; rfl
    rw [er] at hp'
    rcases rmpIt_or xi ib fr (evL mid c (D.put dnx (.tup (.cons (.b true) (.cons t.1.1 (.cons t.1.2 .nil)))) fr) s3 fun fr4 s4 =>
      AV.onB (X.ev xc fr4) .bad fun t' => ifB t' (rmpIt xi ib fr4 (evL post c (D.put den (.tup (.cons t.1.1 (.cons t.1.2 .nil))) fr4) s4 (evC q c))) .bad) with h | ⟨hxit, h⟩
    · rw [h] at hp'; exact (bad hp').elim
    rw [h] at hp'
    have hev : a.eval p1 = .pointer (some ⟨itb, 0, none⟩) := by
      have := xB_rel k1 hb L.fra
      rw [hxit] at this
      rw [this.2, L.itr.2.1, L.itr.2.2]
    rcases snd_l hck hc 1 (D.put dnx (.tup (.cons (.b true) (.cons t.1.1 (.cons t.1.2 .nil)))) fr) s3 hmid y3 with h | ⟨fr4, s4, h, hdo4⟩
    · rw [h] at hp'; exact (bad hp').elim
    rw [h] at hp'
    refine wpIn_seq (wpIn_region ?_)
    rw [y1, range_cons, wpOpsIn_cons]
    refine op_val y2 gg1 (by unfold noDf; rw [hop1]) (by rw [ex_next hop1, hev]; exact run_v hnx) ?_
    refine hdo4 _ _ _ hb hs3 (L.fra.put d1 (by simp only [Rel, RelL]; exact ⟨_, rfl, _, _, rfl, rfl, _, _, rfl, hk, _, _, rfl, hvv, rfl⟩)) _ fun a4 w4 r4 hs4 hst4 hf4 hd4 => ?_
    show (Code.seq (.cond v .skip (.exit b1)) (.block b2 (.seq (.region id2 ops2 false) bd))).wpIn (Wd ro) 0 P _ a4 w4
    have hb4 := hb.le hst4.le
    have hr4 := xB_rel hv hb4 hf4
    cases ht4 : X.ev xc fr4 <;> rw [ht4] at hp' hr4 <;> try exact (bad hp').elim
    rename_i tt
    cases tt with
    | false => exact (bad hp').elim
    | true =>
    replace hp' : ∀ out ∈ nextM b1 b2 b l (headM (rmpLast xi dnx mid xc ib c) (rndM xi xc dnx den mid post ib b c (evC q c)) (nextM b1 b2 b l) n ((T1 ++ T2).map (·.1))) (rmpIt xi ib fr4 (evL post c (D.put den (.tup (.cons t.1.1 (.cons t.1.2 .nil))) fr4) s4 (evC q c))), Post B0 N lo r1 s1 w1 out Q := hp'
    rcases rmpIt_or xi ib fr4 (evL post c (D.put den (.tup (.cons t.1.1 (.cons t.1.2 .nil))) fr4) s4 (evC q c)) with h4 | ⟨hxit4, h4⟩
    · rw [h4] at hp'; exact (bad hp').elim
    rw [h4] at hp'
    refine wpIn_seq (wpIn_cond_true hr4 (wpIn_skip ?_))
    show (Code.block b2 (.seq (.region id2 ops2 false) bd)).wpIn (Wd ro) 0 P _ a4 w4
    refine wpIn_block (wpIn_seq (wpIn_region ?_))
    have hat : ∀ {r' : Rho}, r.Le r' → r'.has ib ∧ r'.blk ib = itb ∧ r'.off ib = 0 := fun k => by
      obtain ⟨q0, q1, q2, _⟩ := k.same ib L.itr.1
      exact ⟨q0, by rw [q1]; exact L.itr.2.1, by rw [q2]; exact L.itr.2.2⟩
    have hev4 : a4.eval p2 = .pointer (some ⟨itb, 0, none⟩) := by
      have := xB_rel k2 hb4 hf4
      rw [hxit4] at this
      rw [this.2, (hat hst4.le).2.1, (hat hst4.le).2.2]
    rcases snd_l hck hc 1 (D.put den (.tup (.cons t.1.1 (.cons t.1.2 .nil))) fr4) s4 hpost z3 with h5 | ⟨fr5, s5, h5, hdo5⟩
    · rw [h5] at hp'; exact (bad hp').elim
    rw [h5] at hp'
    rw [z1, range_cons, wpOpsIn_cons]
    obtain ⟨kit4, kmp4⟩ := kept hst4
    refine op_val z2 gg2 (by unfold noDf; rw [hop2]) (by rw [ex_entry hop2, hev4]; exact run_v (run_entry_at w4 itb bm cl vis es cl t.2 kit4 kmp4 hes hst.2.1)) ?_
    refine hdo5 _ _ _ hb4 hs4 (hf4.put d2 (by simp only [Rel, RelL]; exact ⟨_, rfl, _, _, rfl, hk.le hst4.le, _, _, rfl, hvv.le hst4.le, rfl⟩)) _ fun a5 w5 r5 hs5 hst5 hf5 hd5 => ?_
    show bd.wpIn (Wd ro) 0 P _ a5 w5
    have hst35 := hst4.trans hst5
    have hdf5 : DfOk lo r5 s5 w5 a5.defers := by
      rw [hd5, put_dfr, hd4, put_dfr]
      exact (hdfv.less (s' := s3) fun b' hl => by
        rcases hsub b' with e | e
        · rw [e] at hl; exact hl.elim
        · rw [← e]; exact hl).stp hst35
    refine hbd c hc fr5 s5 r5 w5 a5 lo (hb4.le hst5.le) hs5 hf5 hdf5 _ ?_
    generalize evC q c fr5 s5 = out at hp'
    have more : ∀ fr6 s6, (∀ out ∈ headM (rmpLast xi dnx mid xc ib c) (rndM xi xc dnx den mid post ib b c (evC q c)) (nextM b1 b2 b l) n ((T1 ++ T2).map (·.1)) fr6 (mapBack b l s6), Post B0 N lo r1 s1 w1 out Q) → ∀ a6 w6 r6, Sim B0 r6 s6 w6 → Stp r5 s5 w5 r6 s6 w6 → FrR N r6 fr6 a6 → DfOk lo r6 s6 w6 a6.defers →
        Code.roundsIn (Wd ro) 0 P (.seq (.region id1 ops1 false) (.seq (.cond v .skip (.exit b1)) (.block b2 (.seq (.region id2 ops2 false) bd)))) (Exit.inBlock b1 Q) (n + 1) a6 w6 := fun fr6 s6 hp6 a6 w6 r6 q1 q2 q3 q4 => by
      have hst36 := hst35.trans q2
      obtain ⟨kit6, kmp6⟩ := kept hst36
      obtain ⟨v1, v2⟩ := back q1 hst36
      refine ih (T1 ++ T2) (vis.push t.2.born) fr6 (mapBack b l s6) r6 w6 a6 hlen' hT' (fun t' h' => ⟨(hrel' t' h').1.le hst36.le, (hrel' t' h').2.le hst36.le⟩) ⟨v1, hstv.trans v2, q3, hDf hst36 q4, ?_, (hst36.le.same b L.hasb).1, (hst36.le.same b L.hasb).2.1.trans L.blk, hat hst36.le, kit6, kmp6, fun b' hno => ?_⟩ hp6
      · show Hp.get (Hp.put s6.h b (.mp l)) b = .mp l
        rw [Hp.get_put_lt _ hb65, if_pos rfl]
      · have hno : Hp.get (Hp.put s6.h b (.mp l)) b' ≠ .no := hno
        rcases Hp.get_put s6.h b (.mp l) b' with e | ⟨rfl, e⟩ | ⟨_, e⟩
        · exact absurd e hno
        · rw [(hst36.le.same b' L.hasb).2.1, L.blk]; exact hbmit
        · rw [e] at hno
          by_cases hl : (Hp.get s6.h b').live
          · rcases hst36.old b' hl with ⟨x, hx, e'⟩ | h'
            · rw [← e']; exact hnlit x hx
            · omega
          · have := q1.ok b'
            cases e4 : Hp.get s6.h b' with
            | no => exact absurd e4 hno
            | ro cc => rw [e4] at this; have := this.2.1; omega
            | rw cc => rw [e4] at hl; exact absurd trivial hl
            | mp cc => rw [e4] at hl; exact absurd trivial hl
            | lp cc => rw [e4] at hl; exact absurd trivial hl
    cases out with
    | bad => exact (bad hp').elim
    | nrm fr6 s6 => exact more fr6 s6 hp'
    | rt fr6 s6 =>
      intro a6 w6 r6 q1 q2 q3 q4
      have hst36 := hst35.trans q2
      obtain ⟨v1, v2⟩ := back q1 hst36
      exact hp' _ (List.mem_singleton.2 rfl) a6 w6 r6 v1 (hstv.trans v2) q3 (hDf hst36 q4)
    | ex id fr6 s6 =>
      intro a6 w6 r6 q1 q2 q3 q4
      have hst36 := hst35.trans q2
      obtain ⟨v1, v2⟩ := back q1 hst36
      show (if id = b2 then _ else _)
      replace hp' : ∀ out ∈ ifB (Nat.beq id b2) (headM (rmpLast xi dnx mid xc ib c) (rndM xi xc dnx den mid post ib b c (evC q c)) (nextM b1 b2 b l) n ((T1 ++ T2).map (·.1)) fr6 (mapBack b l s6)) (ifB (Nat.beq id b1) [.nrm fr6 (mapBack b l s6)] [.ex id fr6 (mapBack b l s6)]), Post B0 N lo r1 s1 w1 out Q := hp'
      rcases hj : Nat.beq id b2 with _ | _
      · rw [hj] at hp'
        rw [if_neg (fun e => by rw [e, Nat.beq_refl] at hj; cases hj)]
        show (if id = b1 then Q .normal a6 w6 else Q (.exit id) a6 w6)
        rcases hj1 : Nat.beq id b1 with _ | _
        · rw [hj1] at hp'
          rw [if_neg (fun e => by rw [e, Nat.beq_refl] at hj1; cases hj1)]
          exact hp' _ (List.mem_singleton.2 rfl) a6 w6 r6 v1 (hstv.trans v2) q3 (hDf hst36 q4)
        · rw [hj1] at hp'
          rw [if_pos (Nat.eq_of_beq_eq_true hj1)]
          exact hp' _ (List.mem_singleton.2 rfl) a6 w6 r6 v1 (hstv.trans v2) q3 (hDf hst36 q4)
      · rw [hj] at hp'
        rw [if_pos (Nat.eq_of_beq_eq_true hj)]
        exact more fr6 s6 hp' a6 w6 r6 q1 q2 q3 q4
noncomputable def manyE (x : X) (dit : D) (xi : X) (dnx : D) (mid : List I) (xc : X) (den : D) (post : List I) (b1 b2 : Nat) (bd : CallE → Fr → St → R) (c : CallE) (fr : Fr) (s : St) : List R :=
  ifB (Nat.blt s.n 65536) (match X.ev x fr with
    | .m b => (match Hp.get s.h b with
      | .mp l => (match pairsA l with
        | some ps => headM (rmpLast xi dnx mid xc s.n c) (rndM xi xc dnx den mid post s.n b c (bd c)) (nextM b1 b2 b l) ps.length ps (D.put dit (.p s.n 0) fr) (.mk (Hp.put s.h s.n .no) (Nat.succ s.n))
        | none => [.bad])
      | _ => [.bad])
    | _ => [.bad]) [.bad]
/-- All that code may come to. -/
noncomputable def evN : Go.Proofs.YtenpbpgoglepfaaGreatDoor.C → CallE → Fr → St → List R
  | .seq a b, c, fr, s => (evN a c fr s).flatMap fun r => R.rec (motive := fun _ => List R) [.bad] (fun fr s => evN b c fr s) (fun id fr s => [.ex id fr s]) (fun fr s => [.rt fr s]) r
  | .rmp pre x dit xi dnx mid xc den post b1 b2 q, c, fr, s => R.rec (motive := fun _ => List R) [.bad] (fun fr s => manyE x dit xi dnx mid xc den post b1 b2 (evC q) c fr s) (fun _ _ _ => [.bad]) (fun _ _ => [.bad]) (evL pre c fr s .nrm)
  | q, c, fr, s => [evC q c fr s]
def CSndN (P : Program) (NG : Env) (B0 N : Nat) (C : CallE → Prop) (ro : Option Nat) (x : Code) (q : Go.Proofs.YtenpbpgoglepfaaGreatDoor.C) : Prop :=
  ∀ c, C c → ∀ fr s (r : Rho) (w : World) (a : Act) (lo : Nat), Base NG r → Sim B0 r s w → FrR N r fr a → DfOk lo r s w a.defers → ∀ Q, (∀ out ∈ evN q c fr s, Post B0 N lo r s w out Q) → x.wpIn (Wd ro) 0 P Q a w
theorem csndN_of {x : Code} {q : Go.Proofs.YtenpbpgoglepfaaGreatDoor.C} (h : CSnd P NG B0 N C ro x q) (hq : ∀ c fr s, evN q c fr s = [evC q c fr s]) : CSndN P NG B0 N C ro x q := fun c hc fr s r w a lo hb hs hf hdf Q hp => by
  refine h c hc fr s r w a lo hb hs hf hdf Q (hp _ ?_)
  rw [hq]
  exact List.mem_singleton.2 rfl
theorem csndN_seq {x y : Code} {p q : Go.Proofs.YtenpbpgoglepfaaGreatDoor.C} (h : CSndN P NG B0 N C ro x p) (k : CSndN P NG B0 N C ro y q) : CSndN P NG B0 N C ro (.seq x y) (.seq p q) := fun c hc fr s r w a lo hb hs hf hdf Q hp => by
  refine wpIn_seq (h c hc fr s r w a lo hb hs hf hdf _ fun out ho => ?_)
  have e : evN (.seq p q) c fr s = (evN p c fr s).flatMap fun r => R.rec (motive := fun _ => List R) [.bad] (fun fr s => evN q c fr s) (fun id fr s => [.ex id fr s]) (fun fr s => [.rt fr s]) r := rfl
  rw [e] at hp
  cases out with
  | bad => exact hp .bad (List.mem_flatMap.2 ⟨_, ho, List.mem_singleton.2 rfl⟩)
  | nrm fr' s' => exact fun a' w' r' h1 h2 h3 h4 => k c hc fr' s' r' w' a' lo (hb.le h2.le) h1 h3 h4 Q fun out2 ho2 => Post.later (hp out2 (List.mem_flatMap.2 ⟨_, ho, ho2⟩)) h2
  | ex id fr' s' => exact hp (.ex id fr' s') (List.mem_flatMap.2 ⟨_, ho, List.mem_singleton.2 rfl⟩)
  | rt fr' s' => exact hp (.rt fr' s') (List.mem_flatMap.2 ⟨_, ho, List.mem_singleton.2 rfl⟩)
theorem csndN_rmp {ck : Oper → I → Bool} (hck : ∀ o i, ck o i = true → SndI P NG B0 N C ro o i) {ops0 ops1 ops2 : Array Oper} {os0 os1 os2 : List Oper} {o0 o1 o2 : Oper} (e0 : ops0.toList = os0 ++ [o0]) (e1 : ops1.toList = o1 :: os1) (e2 : ops2.toList = o2 :: os2)
    {x xi xc : X} {dit dnx den : D} {pre mid post : List I} {v : Operand} (h0 : okRng P NG N o0 x dit = true) (h1 : okNxt NG N o1 xi dnx = true) (h2 : okEnt NG N o2 xi den = true) (hpre : okL ck N ops0 os0 pre = true) (hmid : okL ck N ops1 os1 mid = true) (hpost : okL ck N ops2 os2 post = true)
    (hv : xB NG N v xc = true) {id0 id1 id2 b1 b2 : Nat} {bd : Code} {q : Go.Proofs.YtenpbpgoglepfaaGreatDoor.C} (hbd : CSnd P NG B0 N C ro bd q) :
    CSndN P NG B0 N C ro (.seq (.region id0 ops0 false) (.block b1 (.loop (.seq (.region id1 ops1 false) (.seq (.cond v .skip (.exit b1)) (.block b2 (.seq (.region id2 ops2 false) bd))))))) (.rmp pre x dit xi dnx mid xc den post b1 b2 q) := by
  intro c hc fr s r w a lo hb hs hf hdf Q hp
  simp only [okRng, okNxt, okEnt, Bool.and_eq_true] at h0 h1 h2
  obtain ⟨⟨g0, d0⟩, k0⟩ := h0
  obtain ⟨⟨g1, d1⟩, k1⟩ := h1
  obtain ⟨⟨g2, d2⟩, k2⟩ := h2
  have gg0 : o0.guard = none := by cases h : o0.guard <;> simp_all
  have gg1 : o1.guard = none := by cases h : o1.guard <;> simp_all
  have gg2 : o2.guard = none := by cases h : o2.guard <;> simp_all
  split at k0
  case h_2 => cases k0
  rename_i ty p0 hop0
  split at k1
  case h_2 => cases k1
  rename_i p1 hop1
  split at k2
  case h_2 => cases k2
  rename_i p2 hop2
  simp only [Bool.and_eq_true] at k0
  obtain ⟨hx, hty⟩ := k0
  split at hty
  case h_2 => cases hty
  rename_i kt et hun
  obtain ⟨z1, z2, z3⟩ := size_cons e2
  have e : evN (.rmp pre x dit xi dnx mid xc den post b1 b2 q) c fr s = R.rec (motive := fun _ => List R) [.bad] (fun fr s => manyE x dit xi dnx mid xc den post b1 b2 (evC q) c fr s) (fun _ _ _ => [.bad]) (fun _ _ => [.bad]) (evL pre c fr s .nrm) := rfl
  rw [e] at hp
  rcases snd_p hck hc [os0.length] 0 fr s hpre ⟨[o0], by rw [List.drop_zero, e0]⟩ with h | ⟨fr', s', h, hdo⟩
  · rw [h] at hp; exact (hp .bad (List.mem_singleton.2 rfl)).elim
  rw [h] at hp
  replace hp : ∀ out ∈ manyE x dit xi dnx mid xc den post b1 b2 (evC q) c fr' s', Post B0 N lo r s w out Q := hp
  refine wpIn_seq (wpIn_region ?_)
  have hsz0 : ops0.size = os0.length + 1 := by rw [← Array.length_toList, e0, List.length_append]; rfl
  have ho0 : ops0[os0.length]? = some o0 := by rw [← Array.getElem?_toList, e0, List.getElem?_append_right (Nat.le_refl _), Nat.sub_self]; rfl
  rw [hsz0, range_snoc]
  refine hdo r w a hb hs hf _ fun a1 w1 r1 hs1 hst1 hf1 hd1 => ?_
  have hb1 := hb.le hst1.le
  have hdf1 : DfOk lo r1 s' w1 a1.defers := by rw [hd1]; exact hdf.stp hst1
  have hx1 := xB_rel hx hb1 hf1
  have hn : s'.n = r1.n := hs1.n
  have badm : (Post B0 N lo r s w .bad Q) → False := fun h => h
  unfold manyE at hp
  rcases hlim : Nat.blt s'.n 65536 with _ | _
  · rw [hlim] at hp; exact (hp .bad (List.mem_singleton.2 rfl)).elim
  rw [hlim, ifB_true] at hp
  have hlim := blt_lt hlim
  -- the iterator's ghost block
  have hat : (r1.push w1.heap.size 0 0).blk s'.n = w1.heap.size ∧ (r1.push w1.heap.size 0 0).off s'.n = 0 := by rw [hn]; exact ⟨(r1.push_at _ _ _).1, (r1.push_at _ _ _).2.1⟩
  have hrit : Rel (r1.push w1.heap.size 0 0) (.p s'.n 0) (.pointer (some ⟨w1.heap.size, 0, none⟩)) := by
    refine ⟨by rw [hn]; exact r1.push_n _ _ _, ?_⟩
    rw [hat.1, hat.2]
  have enter : ∀ o : Obj, (Instr.range ty (a1.eval p0)).run P w1 = .ok (.pointer (some ⟨w1.heap.size, 0, none⟩)) (w1.alloc o) → (Code.block b1 (.loop (.seq (.region id1 ops1 false) (.seq (.cond v .skip (.exit b1)) (.block b2 (.seq (.region id2 ops2 false) bd)))))).wpIn (Wd ro) 0 P Q (a1.put o0.dst (.pointer (some ⟨w1.heap.size, 0, none⟩))) (w1.alloc o) →
      wpOpsIn (Wd ro) 0 P ops0 (Exit.then ((Code.block b1 (.loop (.seq (.region id1 ops1 false) (.seq (.cond v .skip (.exit b1)) (.block b2 (.seq (.region id2 ops2 false) bd)))))).wpIn (Wd ro) 0 P Q) Q) [os0.length] a1 w1 := fun o hr hw => by
    rw [wpOpsIn_cons]
    refine op_val ho0 gg0 (by unfold noDf; rw [hop0]) (by rw [ex_range hop0]; exact run_v hr) ?_
    exact hw
  have none : ∀ {out : List R}, (∀ o ∈ out, Post B0 N lo r s w o Q) → out = [.bad] → False := fun h e => by
    rw [e] at h
    exact h .bad (List.mem_singleton.2 rfl)
  split at hp
  case h_2 => exact (none hp rfl).elim
  rename_i b hX
  split at hp
  case h_2 => exact (none hp rfl).elim
  rename_i l hg
  split at hp
  case h_2 => exact (none hp rfl).elim
  rename_i ps hps
  rw [hX] at hx1
  obtain ⟨hbh, hpv⟩ := hx1
  rw [hpv] at enter
  have hok := hs1.ok b
  rw [hg] at hok
  obtain ⟨_, hge, es, cl, hm, hrel, hst⟩ := hok
  have hrun := run_range_map (P := P) w1 ty kt et (r1.blk b) es cl hun hm
  have hml : r1.blk b < w1.heap.size := (Array.getElem?_eq_some_iff.1 hm).1
  refine enter _ hrun ?_
  obtain ⟨T, t1, t2, t3⟩ := pairs_rel es.toList l ps hrel hps
  obtain ⟨hs2, hst2⟩ := hs1.it (w3 := w1.alloc (.mapIter (some (r1.blk b)) cl #[] cl)) (by simp) (fun y hy => Below.heap_alloc w1 _ y hy) rfl rfl rfl
  have hlen : ps.length = T.length := by rw [← t1, List.length_map]
  have hbs : b < s'.n := by rw [hn]; exact hs1.lt b hbh
  have hB0 := hs1.low
  refine wpIn_block (wpIn_loop_rounds (T.length + 1) ?_)
  refine head_ok hck e1 e2 gg1 hop1 k1 d1 gg2 hop2 k2 d2 hmid hpost hv hbd hc (hb.le hst1.le) (l := l) (itb := w1.heap.size) (bm := r1.blk b) (s1 := s') (r1 := r1) (w1 := w1) hst (Nat.le_refl _) hB0 (by omega) T.length T #[] (D.put dit (.p s'.n 0) fr') (.mk (Hp.put s'.h s'.n .no) (Nat.succ s'.n)) (r1.push w1.heap.size 0 0) (w1.alloc (.mapIter (some (r1.blk b)) cl #[] cl)) _ (Nat.le_refl _) (by rw [t2]; unfold leftOf; rw [Array.toList_filter]; exact (List.filter_eq_self.2 fun e _ => by simp).symm) (fun t ht => ⟨(t3 t ht).1.le hst2.le, (t3 t ht).2.le hst2.le⟩)
    ⟨hs2, hst2, (hf1.le hst2.le).put d0 hrit, by rw [put_dfr]; exact hdf1.stp hst2, ?_, (hst2.le.same b hbh).1, (hst2.le.same b hbh).2.1, ⟨by rw [hn]; exact r1.push_n _ _ _, hat.1, hat.2⟩, heap_alloc_new _ _, by rw [heap_alloc_old _ _ hml, hm], fun b' hno => ?_⟩ fun out ho => ?_
  · show Hp.get (Hp.put s'.h s'.n .no) b = .mp l
    rw [Hp.get_put_lt _ hlim, if_neg (by omega), hg]
  · have hno : Hp.get (Hp.put s'.h s'.n .no) b' ≠ .no := hno
    rcases Hp.get_put s'.h s'.n .no b' with e | ⟨_, e⟩ | ⟨_, e⟩
    · exact absurd e hno
    · exact absurd e hno
    · rw [e] at hno
      obtain ⟨q1, q2⟩ := (hs1.ok b').lt hno
      rw [(hst2.le.same b' q1).2.1]
      omega
  · refine Post.later (hp out ?_) hst1
    rw [hlen, ← t1]
    exact ho
end
section
variable {P : Program} {NG : Env} {B0 N : Nat}
theorem snd_ckN {mt : Mt} (hk : Kn P mt) {ckD : Nat → Array Oper → C → Bool} (hD : ∀ (E : Env) (ro : Option Nat) N id ops l, E.ng = NG.ng → ckD N ops l = true → CSnd P E B0 N (CAll P E B0) ro (.region id ops true) l) :
    ∀ {top : Bool} {N : Nat} {x : Code} {c : C}, ckC P NG mt ckD top N x c = true → ∀ (E : Env) (ro : Option Nat), E.ng = NG.ng → (top = true → ro = none) → CSndN P E B0 N (CAll P E B0) ro x c := by
  intro top N x c h
  have h0 := fun E ro hE ht => snd_ckC (B0 := B0) hk hD h E ro hE ht
  revert h0
  fun_induction ckC P NG.ng mt ckD top N x c with
  | case5 top N a b c d ih1 ih2 =>
    simp only [Bool.and_eq_true] at h
    exact fun _ E ro hE ht => csndN_seq (ih1 h.1 (fun E ro hE ht => snd_ckC hk hD h.1 E ro hE ht) E ro hE ht) (ih2 h.2 (fun E ro hE ht => snd_ckC hk hD h.2 E ro hE ht) E ro hE ht)
  | case12 top N id0 ops0 i id1 ops1 v i' j id2 ops2 bd pre x dit xi dnx mid xc den post b1 b2 q ih =>
    simp only [Bool.and_eq_true] at h
    obtain ⟨h1, h2, h3, h4, h5, h6, h7, h8⟩ := h
    obtain rfl := Nat.eq_of_beq_eq_true h1
    obtain rfl := Nat.eq_of_beq_eq_true h2
    obtain rfl := Nat.eq_of_beq_eq_true h3
    split at h5
    case h_2 => cases h5
    rename_i o0 rs0 e0
    split at h6
    case h_2 => cases h6
    rename_i o1 os1 e1
    split at h7
    case h_2 => cases h7
    rename_i o2 os2 e2
    simp only [Bool.and_eq_true] at h5 h6 h7
    have e0' : ops0.toList = rs0.reverse ++ [o0] := by rw [← List.reverse_reverse ops0.toList, e0, List.reverse_cons]
    intro _ E ro hE ht
    have hbd := snd_ckC hk hD h8 E ro hE ht
    rw [← hE] at h4 h5 h6 h7
    exact csndN_rmp (fun o i h => snd_cj hk h) e0' e1 e2 h5.1 h6.1 h7.1 h5.2 h6.2 h7.2 h4 hbd
  | case13 top N x c =>
    intro h0 E ro hE ht
    unfold isBad at h
    split at h
    · exact csndN_of (h0 E ro hE ht) fun _ _ _ => rfl
    · cases h
  | _ => exact fun h0 E ro hE ht => csndN_of (h0 E ro hE ht) fun _ _ _ => rfl
/-- A call of a function with such a loop. -/
theorem fnN_x {mt : Mt} (hk : Kn P mt) {ckD : Nat → Array Oper → C → Bool} (hD : ∀ (E : Env) (ro : Option Nat) N id ops l, E.ng = NG.ng → ckD N ops l = true → CSnd P E B0 N (CAll P E B0) ro (.region id ops true) l) {g : Nat} {fn : Func} (hg : P.funcs[g]? = some fn) {nt : Nat} {body : C} {res : List RV} (h : ckF P NG mt ckD fn (.x nt body res) = true)
    {ih : CallE} (hih : CAll P NG B0 ih) {ar v : AV} {s : St} {D : St → Prop} (hle : Nat.ble (lenL ar) nt = true) (hall : ∀ out ∈ evN body ih (inFr ar) s, ∃ s', finE res out = .ok v s' ∧ D s') {r : Rho} {w : World} {args : Array Value} (hb : Base NG r) (hs : Sim B0 r s w) (hr : RelL r ar args.toList) :
    CallsF P g args w fun x w' => ∃ r' s', Rel r' v x ∧ Sim B0 r' s' w' ∧ Stp r s w r' s' w' ∧ D s' := by
  simp only [ckF, Bool.and_eq_true, Bool.not_eq_true'] at h
  obtain ⟨⟨⟨⟨hc, h16⟩, hnt⟩, hres⟩, hname⟩ := h
  have h16 := Nat.le_of_ble_eq_true h16
  have hnt := Nat.le_of_ble_eq_true hnt
  split at hc
  case h_2 => cases hc
  rename_i code hbody
  have hle := Nat.le_of_ble_eq_true hle
  refine .inl ⟨?_, (callsIn_wide (n := 0)).1 (callsIn_of_wp_marks (F := Wd none) hg hbody trivial ?_ rfl)⟩
  · have hn : ¬ fn.name = "runtime.NumGoroutine" := by simpa using hname
    unfold callFunc
    simp [hg, hn, hbody]
  · refine snd_ckN hk hD hc NG none rfl (fun _ => rfl) ih hih (inFr ar) s r w _ w.heap.size hb hs (frame_in hr hle h16 hnt) (DfOk.nil (Nat.le_refl _)) _ fun out ho => ?_
    obtain ⟨s', hrun, hd⟩ := hall out ho
    have fin : ∀ fr2 s2, evRVs res fr2 s2 (fun l => .ok (oneOr l) s2) = .ok v s' → ∀ (a' : Act) (w' : World) (r' : Rho), Sim B0 r' s2 w' → Stp r s w r' s2 w' → FrR fn.ntmps r' fr2 a' → DfOk w.heap.size r' s2 w' a'.defers →
        LeavesInM (Wd none) 0 P fn a'.tmps (fun e w' => ∃ x, e = .returned x ∧ ∃ r' s', Rel r' v x ∧ Sim B0 r' s' w' ∧ Stp r s w r' s' w' ∧ D s') a'.defers .returning w' := fun fr2 s2 he a' w' r' h1 h2 h3 h4 => by
      rcases rvs_ok (B0 := B0) (fr := fr2) (s := s2) hres with k1 | ⟨av, k1, k2⟩
      · rw [k1] at he; cases he
      · rw [k1] at he
        cases he
        refine leaves_df h4 h1 h2 fun w'' g1 g2 => ?_
        obtain ⟨us, u1, u2⟩ := k2 r' w'' a' g1 h3
        exact ⟨_, results_ok u1, _, rfl, r', _, oneOr_rel u2, g1, g2, hd⟩
    cases out with
    | bad => cases hrun
    | nrm fr2 s2 => exact fun a' w' r' h1 h2 h3 h4 => fin fr2 s2 hrun a' w' r' h1 h2 h3 h4
    | ex id fr2 s2 => cases hrun
    | rt fr2 s2 => exact fun a' w' r' h1 h2 h3 h4 => fin fr2 s2 hrun a' w' r' h1 h2 h3 h4
end
noncomputable def allR (p : R → Bool) (l : List R) : Bool := List.rec (motive := fun _ => Bool) true (fun r _ ih => ifB (p r) ih false) l
theorem allR_mem {p : R → Bool} {r : R} : ∀ {l : List R}, allR p l = true → r ∈ l → p r = true
  | [], _, hm => by cases hm
  | a :: l, h, hm => by
    obtain ⟨h1, h2⟩ := ifB_and (show ifB (p a) (allR p l) false = true from h)
    rcases List.mem_cons.1 hm with rfl | hm
    · exact h1
    · exact allR_mem h2 hm
noncomputable def manF (f : Fn) (c : CallE) (ar : AV) (s : St) (p : RC → Bool) : Bool := Fn.rec (motive := fun _ => Bool) (fun nt body res => ifB (Nat.ble (lenL ar) nt) (allR (fun out => p (finE res out)) (evN body c (inFr ar) s)) false) (fun _ => false) false f
section
variable {rows : List (Nat × Rw)}
theorem manF_ok {E : Env} {B0 : Nat} (hE : EOk E) (hrows : RowsOk E B0 rows) {k g : Nat} {fn : Func} (hg : Tryz.prog.funcs[g]? = some fn) {f : Fn} (hck : ckF Tryz.prog 18 mt0 (ckDD Tryz.prog 18 mt0) fn f = true) {ar v : AV} {s : St} {p : RC → Bool} {D : St → Prop} (h : manF f (evF (tabW rows) k) ar s p = true)
    (hp : ∀ o, p o = true → ∃ s', o = .ok v s' ∧ D s') {r : Rho} {w : World} {args : Array Value} (hb : Base E r) (hs : Sim B0 r s w) (hr : RelL r ar args.toList) :
    CallsF Tryz.prog g args w fun x w' => ∃ r' s', Rel r' v x ∧ Sim B0 r' s' w' ∧ Stp r s w r' s' w' ∧ D s' := by
  cases f with
  | pr _ => cases hck
  | no => cases hck
  | x nt body res =>
    obtain ⟨h1, h2⟩ := ifB_and (show ifB (Nat.ble (lenL ar) nt) (allR (fun out => p (finE res out)) (evN body (evF (tabW rows) k) (inFr ar) s)) false = true from h)
    exact fnN_x (NG := E) (mt := mt0) kn_ok (ckD := ckDD Tryz.prog E.ng mt0) (fun E' ro N id ops l he h => snd_dd mixed_ok kn_ok E' ro N id ops l he h) hg (by rw [hE.1]; exact hck) (evalW_ok hE hrows k) h1 (fun out ho => hp _ (allR_mem h2 ho)) hb hs hr
theorem entry_many {k g n n' : Nat} {ar v : AV} {lu lc l' : BL} {fn : Func} {f : Fn} (hg : Tryz.prog.funcs[g]? = some fn) (hck : ckF Tryz.prog 18 mt0 (ckDD Tryz.prog 18 mt0) fn f = true) (hrows : ∀ (E : Env) (B0 : Nat), EOk E → RowsOk E B0 rows)
    (h : manF f (evF (tabW rows) k) ar (stE n lu lc) (fun o => entB o lu v n' l') = true) : EntOk g (.mk ar n lu lc v n' l') := fun E B0 hE r w args hb hs hr =>
  manF_ok hE (hrows E B0 hE) hg hck (D := fun s' => s'.n = n' ∧ inH s'.h lu = true ∧ inH s'.h l' = true) h (fun o ho => by
    cases o with
    | bad => cases ho
    | ok v' s' =>
      obtain ⟨q1, ho⟩ := ifB_and (show ifB (sameA v' v) (ifB (Nat.beq s'.n n') (ifB (inH s'.h lu) (inH s'.h l') false) false) false = true from ho)
      obtain ⟨q2, ho⟩ := ifB_and ho
      obtain ⟨q3, q4⟩ := ifB_and ho
      exact ⟨s', by rw [sameA_eq q1], Nat.eq_of_beq_eq_true q2, q3, q4⟩) hb hs hr
noncomputable def loB (lu : BL) (v : AV) (l' : BL) (o : RC) : Bool := RC.rec (motive := fun _ => Bool) false (fun v' s' => ifB (sameA v' v) (ifB (inH s'.h lu) (inH s'.h l') false) false) o
noncomputable def manL (n : Nat) (ar : AV) (lu lc : BL) (v : AV) (l' : BL) (x : Bool) : Bool := ifB (Nat.ble 34 n) (ifB (belA n ar) (ifB (belL n lu) (ifB (belL n lc) (ifB (belA n v) (ifB (belL n l') x false) false) false) false) false) false
theorem entry_manyL {k g n : Nat} {ar v : AV} {lu lc l' : BL} {fn : Func} {f : Fn} (hg : Tryz.prog.funcs[g]? = some fn) (hck : ckF Tryz.prog 18 mt0 (ckDD Tryz.prog 18 mt0) fn f = true) (hrows : ∀ (E : Env) (B0 : Nat), EOk E → RowsOk E B0 rows)
    (h : manL n ar lu lc v l' (manF f (evF (tabW rows) k) ar (stE n lu lc) (loB lu v l')) = true) : EntOk g (.lo ar n lu lc v l') := by
  obtain ⟨q1, h⟩ := ifB_and h
  obtain ⟨q2, h⟩ := ifB_and h
  obtain ⟨q3, h⟩ := ifB_and h
  obtain ⟨q4, h⟩ := ifB_and h
  obtain ⟨q5, h⟩ := ifB_and h
  obtain ⟨q6, h⟩ := ifB_and h
  refine ⟨⟨Nat.le_of_ble_eq_true q1, q2, q3, q4, q5, q6⟩, fun E B0 hE r w args hb hs hr => ?_⟩
  exact manF_ok hE (hrows E B0 hE) hg hck (D := fun s' => inH s'.h lu = true ∧ inH s'.h l' = true) h (fun o ho => by
    cases o with
    | bad => cases ho
    | ok v' s' =>
      obtain ⟨q1, ho⟩ := ifB_and (show ifB (sameA v' v) (ifB (inH s'.h lu) (inH s'.h l') false) false = true from ho)
      obtain ⟨q3, q4⟩ := ifB_and ho
      exact ⟨s', by rw [sameA_eq q1], q3, q4⟩) hb hs hr
end
theorem ckHeld : ckF Tryz.prog 18 mt0 (ckDD Tryz.prog 18 mt0) Tryz.f145 xf145 = true := by kernel_rfl
theorem ckNow : ckF Tryz.prog 18 mt0 (ckDD Tryz.prog 18 mt0) Tryz.f144 xf144 = true := by kernel_rfl
end Go.Proofs.YtenpbpgoglepfaaGreatDoor
namespace Go.Proofs.YtenpbpgoglepfaaGreatDoor
open Go.RowKit
set_option linter.unusedVariables false
/-- Values for some opaque numbers. -/
abbrev Sg := List (Nat × Nat)
noncomputable def sgGet (sg : Sg) (j : Nat) : Option Nat := List.rec (motive := fun _ => Option Nat) none (fun e _ ih => Prod.rec (motive := fun _ => Option Nat) (fun i n => ifB (Nat.beq i j) (some n) ih) e) sg
noncomputable def optQ {β : Type} (o : Option Nat) (x : β) (f : Nat → β) : β := Option.rec (motive := fun _ => β) x f o
noncomputable def instN (sg : Sg) (x : Nat) : Nat := ifB (Nat.blt x 256) x (optQ (sgGet sg (Nat.sub x 256)) x fun n => n)
noncomputable def instA (sg : Sg) (v : AV) : AV := AV.rec (motive := fun _ => AV) .u (fun k n => .i k n) (fun v => .b v) (fun b o => .p b o) .np (fun b o z l c e => .s b o z l c e) .ns (fun l => .str (l.map (instN sg))) (fun b => .m b) .nm (fun g _ _ a c => .f g a c) .nf (fun t _ x => .ifc t x) .ni .nil (fun _ _ a l => .cons a l) (fun _ l => .agg l) (fun _ l => .tup l) (fun b => .y b) (fun k j => optQ (sgGet sg j) (.q k j) fun n => .i k (.ofNat n)) v
noncomputable def F.map {α β : Type} (f : α → β) (t : F α) : F β := F.rec (motive := fun _ => F β) (fun c0 c1 c2 c3 c4 c5 c6 c7 c8 c9 ca cb cc cd ce cf => .mk (f c0) (f c1) (f c2) (f c3) (f c4) (f c5) (f c6) (f c7) (f c8) (f c9) (f ca) (f cb) (f cc) (f cd) (f ce) (f cf)) t
theorem F.get_map {α β : Type} (f : α → β) (t : F α) (h : H) : F.get h (F.map f t) = f (F.get h t) := by cases t; cases h <;> rfl
noncomputable def instC (sg : Sg) (c : Cs) : Cs := Cs.rec (motive := fun _ => Cs) (fun f => .c1 (F.map (instA sg) f)) (fun f => .c2 (F.map (F.map (instA sg)) f)) (fun f => .c3 (F.map (F.map (F.map (instA sg))) f)) c
noncomputable def instG (sg : Sg) (g : GB) : GB := GB.rec (motive := fun _ => GB) .no (fun c => .ro (instC sg c)) (fun c => .rw (instC sg c)) (fun l => .mp (instA sg l)) (fun n => .lp n) g
noncomputable def instL (sg : Sg) (l : BL) : BL := l.map fun e => (e.1, instG sg e.2)
theorem get_instC (sg : Sg) (c : Cs) (o : Nat) : Cs.get (instC sg c) o = instA sg (Cs.get c o) := by
  have key : ∀ (b : Bool) (v : AV), ifB b (instA sg v) .u = instA sg (ifB b v .u) := fun b v => by cases b <;> rfl
  cases c with
  | c1 f =>
    show ifB (Nat.blt o 16) (F.get (toH0 o) (F.map (instA sg) f)) .u = instA sg (ifB (Nat.blt o 16) (F.get (toH0 o) f) .u)
    rw [F.get_map, key]
  | c2 f =>
    show ifB (Nat.blt o 256) (F.at2 (F.map (F.map (instA sg)) f) o) .u = instA sg (ifB (Nat.blt o 256) (F.at2 f o) .u)
    unfold F.at2
    rw [F.get_map, F.get_map, key]
  | c3 f =>
    show ifB (Nat.blt o 4096) (F.at3 (F.map (F.map (F.map (instA sg))) f) o) .u = instA sg (ifB (Nat.blt o 4096) (F.at3 f o) .u)
    unfold F.at3 F.at2
    rw [F.get_map, F.get_map, F.get_map, key]
theorem inst_u {sg : Sg} {v : AV} : instA sg v = .u ↔ v = .u := by
  cases v with
  | q k j =>
    show optQ (sgGet sg j) (AV.q k j) (fun n => AV.i k (.ofNat n)) = AV.u ↔ _
    cases sgGet sg j <;> exact ⟨fun h => (by cases h), fun h => (by cases h)⟩
  | u => exact ⟨fun _ => rfl, fun _ => rfl⟩
  | _ => exact ⟨fun h => (by cases h), fun h => (by cases h)⟩
theorem num_inst (sg : Sg) (v : AV) : AV.num (instA sg v) = AV.num v := by
  induction v with
  | cons a l _ ih => show AV.num (instA sg l) + 1 = AV.num l + 1; rw [ih]
  | q k j =>
    show AV.num (optQ (sgGet sg j) (AV.q k j) (fun n => AV.i k (.ofNat n))) = 0
    cases sgGet sg j <;> rfl
  | _ => rfl
/-- The values are the true ones. -/
def SgOk (r : Rho) (sg : Sg) : Prop := ∀ j n, sgGet sg j = some n → r.opn j = n
section
variable {r : Rho} {sg : Sg}
theorem byt_inst (h : SgOk r sg) (x : Nat) : r.byt (instN sg x) = r.byt x := by
  unfold instN
  rcases hx : Nat.blt x 256 with _ | _
  · rw [ifB_false]
    have hx : ¬ x < 256 := by rw [blt_eq] at hx; simpa using hx
    cases hg : sgGet sg (x - 256) with
    | none => rfl
    | some n =>
      show r.byt n = r.byt x
      have e := h _ _ hg
      have hb := byt_lt r x
      have e2 : r.byt x = n := by unfold Rho.byt; rw [if_neg hx]; exact e
      rw [e2] at hb ⊢
      exact byt_low r hb
  · rfl
theorem rel_inst (h : SgOk r sg) : ∀ v : AV, (∀ x, Rel r (instA sg v) x ↔ Rel r v x) ∧ (∀ xs, RelL r (instA sg v) xs ↔ RelL r v xs) := by
  intro v
  induction v with
  | str l =>
    refine ⟨fun x => ?_, fun xs => ?_⟩
    · show (∃ s, x = .string s ∧ s.data.toList.map (fun b => b.toNat) = (l.map (instN sg)).map r.byt) ↔ ∃ s, x = .string s ∧ s.data.toList.map (fun b => b.toNat) = l.map r.byt
      rw [List.map_map, List.map_congr_left (f := r.byt ∘ instN sg) (g := r.byt) fun y _ => byt_inst h y]
    · show RelL r (.str _) xs ↔ _
      simp [RelL]
  | q k j =>
    have e : instA sg (.q k j) = optQ (sgGet sg j) (.q k j) fun n => .i k (.ofNat n) := rfl
    cases hg : sgGet sg j with
    | none => rw [e, hg]; exact ⟨fun _ => Iff.rfl, fun _ => Iff.rfl⟩
    | some n =>
      have e2 := h _ _ hg
      rw [e, hg]
      refine ⟨fun x => ?_, fun xs => ?_⟩
      · show x = .int k (.ofNat n) ↔ x = .int k (.ofNat (r.opn j))
        rw [e2]
      · show RelL r (.i k (.ofNat n)) xs ↔ _
        simp [RelL]
  | f g fs cs i1 i2 =>
    refine ⟨fun x => ?_, fun xs => ?_⟩
    · show (∃ a c, x = .func (.func g) a c ∧ RelL r (instA sg fs) a.toList ∧ RelL r (instA sg cs) c.toList) ↔ ∃ a c, x = .func (.func g) a c ∧ RelL r fs a.toList ∧ RelL r cs c.toList
      constructor
      · rintro ⟨a, c, k1, k2, k3⟩
        exact ⟨a, c, k1, (i1.2 _).1 k2, (i2.2 _).1 k3⟩
      · rintro ⟨a, c, k1, k2, k3⟩
        exact ⟨a, c, k1, (i1.2 _).2 k2, (i2.2 _).2 k3⟩
    · show RelL r (.f g _ _) xs ↔ _
      simp [RelL]
  | ifc t v i1 =>
    refine ⟨fun x => ?_, fun xs => ?_⟩
    · show (∃ y, x = .iface t y ∧ Rel r (instA sg v) y) ↔ ∃ y, x = .iface t y ∧ Rel r v y
      exact ⟨fun ⟨y, k1, k2⟩ => ⟨y, k1, (i1.1 _).1 k2⟩, fun ⟨y, k1, k2⟩ => ⟨y, k1, (i1.1 _).2 k2⟩⟩
    · show RelL r (.ifc t _) xs ↔ _
      simp [RelL]
  | cons a t i1 i2 =>
    refine ⟨fun x => ?_, fun xs => ?_⟩
    · show x = r.opq (AV.num (instA sg t) + 1) ↔ x = r.opq (AV.num t + 1)
      rw [num_inst]
    · show (∃ v vs, xs = v :: vs ∧ Rel r (instA sg a) v ∧ RelL r (instA sg t) vs) ↔ ∃ v vs, xs = v :: vs ∧ Rel r a v ∧ RelL r t vs
      exact ⟨fun ⟨v, vs, k1, k2, k3⟩ => ⟨v, vs, k1, (i1.1 _).1 k2, (i2.2 _).1 k3⟩, fun ⟨v, vs, k1, k2, k3⟩ => ⟨v, vs, k1, (i1.1 _).2 k2, (i2.2 _).2 k3⟩⟩
  | agg l i1 =>
    refine ⟨fun x => ?_, fun xs => ?_⟩
    · show (∃ a, x = .agg a ∧ RelL r (instA sg l) a.toList) ↔ ∃ a, x = .agg a ∧ RelL r l a.toList
      exact ⟨fun ⟨y, k1, k2⟩ => ⟨y, k1, (i1.2 _).1 k2⟩, fun ⟨y, k1, k2⟩ => ⟨y, k1, (i1.2 _).2 k2⟩⟩
    · show RelL r (.agg _) xs ↔ _
      simp [RelL]
  | tup l i1 =>
    refine ⟨fun x => ?_, fun xs => ?_⟩
    · show (∃ a, x = .tuple a ∧ RelL r (instA sg l) a.toList) ↔ ∃ a, x = .tuple a ∧ RelL r l a.toList
      exact ⟨fun ⟨y, k1, k2⟩ => ⟨y, k1, (i1.2 _).1 k2⟩, fun ⟨y, k1, k2⟩ => ⟨y, k1, (i1.2 _).2 k2⟩⟩
    · show RelL r (.tup _) xs ↔ _
      simp [RelL]
  | _ => exact ⟨fun _ => Iff.rfl, fun _ => Iff.rfl⟩
theorem row_inst (h : SgOk r sg) {w : World} {b : Nat} {c : Cs} : RowOk r w b (instC sg c) ↔ RowOk r w b c := by
  constructor
  · rintro ⟨a1, cs, t, f, a2, a3, a4, a5⟩
    refine ⟨a1, cs, t, f, a2, a3, fun o ho => ?_, a5⟩
    obtain ⟨x, x1, x2⟩ := a4 o (by rw [get_instC]; exact fun e => ho (inst_u.1 e))
    rw [get_instC] at x2
    exact ⟨x, x1, ((rel_inst h _).1 x).1 x2⟩
  · rintro ⟨a1, cs, t, f, a2, a3, a4, a5⟩
    refine ⟨a1, cs, t, f, a2, a3, fun o ho => ?_, a5⟩
    rw [get_instC] at ho ⊢
    obtain ⟨x, x1, x2⟩ := a4 o (fun e => ho (inst_u.2 e))
    exact ⟨x, x1, ((rel_inst h _).1 x).2 x2⟩
theorem okB_inst (h : SgOk r sg) {B0 : Nat} {w : World} {b : Nat} {g : GB} : OkB B0 r w b (instG sg g) ↔ OkB B0 r w b g := by
  cases g with
  | no => exact Iff.rfl
  | ro c => exact and_congr (row_inst h) Iff.rfl
  | rw c => exact and_congr (row_inst h) Iff.rfl
  | mp l =>
    constructor
    · rintro ⟨a1, a2, es, cl, a3, a4, a5⟩
      exact ⟨a1, a2, es, cl, a3, ((rel_inst h _).2 _).1 a4, a5⟩
    · rintro ⟨a1, a2, es, cl, a3, a4, a5⟩
      exact ⟨a1, a2, es, cl, a3, ((rel_inst h _).2 _).2 a4, a5⟩
  | lp n => exact Iff.rfl
theorem live_inst {g : GB} : (instG sg g).live ↔ g.live := by cases g <;> exact Iff.rfl
theorem put_inst {h h' : Hp} (hh : ∀ b, Hp.get h' b = instG sg (Hp.get h b)) : ∀ (l : BL) (b : Nat), Hp.get (putH (instL sg l) h') b = instG sg (Hp.get (putH l h) b)
  | [], b => hh b
  | (b0, g0) :: l, b => by
    show Hp.get (Hp.put (putH (instL sg l) h') b0 (instG sg g0)) b = instG sg (Hp.get (Hp.put (putH l h) b0 g0) b)
    rcases hb : Nat.blt b0 65536 with _ | _
    · have e : ∀ (x : Hp) (g : GB), Hp.put x b0 g = Hp.non := fun x g => by unfold Hp.put; rw [hb]; rfl
      rw [e, e, Hp.get_non]
      rfl
    · rw [Hp.get_put_lt _ (blt_lt hb), Hp.get_put_lt _ (blt_lt hb)]
      split
      · rfl
      · exact put_inst hh l b
theorem stE_inst (n : Nat) (lu lc : BL) (b : Nat) : Hp.get (stE n (instL sg lu) (instL sg lc)).h b = instG sg (Hp.get (stE n lu lc).h b) :=
  put_inst (put_inst (fun b => by rw [Hp.get_non]; rfl) lu) lc b
theorem sim_inst (h : SgOk r sg) {B0 n : Nat} {lu lc : BL} {w : World} (hs : Sim B0 r (stE n lu lc) w) : Sim B0 r (stE n (instL sg lu) (instL sg lc)) w :=
  ⟨hs.n, hs.lt, hs.low, fun b => by rw [stE_inst]; exact (okB_inst h).2 (hs.ok b), fun b b' h1 h2 e => hs.inj b b' (by rw [stE_inst] at h1; exact live_inst.1 h1) (by rw [stE_inst] at h2; exact live_inst.1 h2) e, hs.ety⟩
end
/-- All values of some opaque numbers. -/
def allS : List Nat → List Sg
  | [] => [[]]
  | j :: J => (allS J).flatMap fun s => [(j, 0) :: s, (j, 1) :: s, (j, 2) :: s, (j, 3) :: s, (j, 4) :: s, (j, 5) :: s, (j, 6) :: s, (j, 7) :: s]
def sgOf (f : Nat → Nat) (J : List Nat) : Sg := J.map fun j => (j, f j)
theorem mem_allS {f : Nat → Nat} (hf : ∀ j, f j < 8) : ∀ J, sgOf f J ∈ allS J
  | [] => List.mem_singleton.2 rfl
  | j :: J => by
    refine List.mem_flatMap.2 ⟨_, mem_allS hf J, ?_⟩
    show (j, f j) :: sgOf f J ∈ _
    have h := hf j
    generalize f j = n at h
    have : n = 0 ∨ n = 1 ∨ n = 2 ∨ n = 3 ∨ n = 4 ∨ n = 5 ∨ n = 6 ∨ n = 7 := by omega
    rcases this with rfl | rfl | rfl | rfl | rfl | rfl | rfl | rfl <;> simp
theorem sg_ok (r : Rho) : ∀ J, SgOk r (sgOf r.opn J)
  | [] => fun j n h => by cases h
  | i :: J => fun j n h => by
    have h : ifB (Nat.beq i j) (some (r.opn i)) (sgGet (sgOf r.opn J) j) = some n := h
    rcases hi : Nat.beq i j with _ | _
    · rw [hi] at h; exact sg_ok r J j n h
    · rw [hi] at h
      obtain rfl := Nat.eq_of_beq_eq_true hi
      exact Option.some.inj h
noncomputable def joinB (J : List Nat) (f : Sg → Bool) : Bool := List.rec (motive := fun _ => Bool) true (fun s _ ih => ifB (f s) ih false) (allS J)
theorem joinB_mem {J : List Nat} {f : Sg → Bool} {s : Sg} (h : joinB J f = true) (hs : s ∈ allS J) : f s = true := by
  unfold joinB at h
  generalize allS J = l at h hs
  induction l with
  | nil => cases hs
  | cons a l ih =>
    obtain ⟨h1, h2⟩ := ifB_and (show ifB (f a) (List.rec (motive := fun _ => Bool) true (fun s _ ih => ifB (f s) ih false) l) false = true from h)
    rcases List.mem_cons.1 hs with rfl | hs
    · exact h1
    · exact ih h2 hs
section
variable {rows : List (Nat × Rw)}
noncomputable def joB (lu : BL) (v : AV) (l' : BL) (sg : Sg) (o : RC) : Bool := loB (instL sg lu) (instA sg v) (instL sg l') o
theorem join_core {J : List Nat} {k g n : Nat} {ar v : AV} {lu lc l' : BL} (hg : g < yN) (hd : ifB (inH (stE 0 lu l').h lu) (inH (stE 0 lu l').h l') false = true) {p : Sg → RC → Bool} (hp : ∀ sg o, p sg o = true → joB lu v l' sg o = true)
    (h : joinB J (fun sg => p sg (evF (tabW rows) k g (instA sg ar) (stE n (instL sg lu) (instL sg lc)))) = true) {E : Env} {B0 : Nat} (hE : EOk E) (hrows : RowsOk E B0 rows) {r : Rho} {w : World} {args : Array Value} (hb : Base E r) (hs : Sim B0 r (stE n lu lc) w) (hr : RelL r ar args.toList) :
    CallsF Tryz.prog g args w fun x w' => ∃ r' s', (∃ sg s1 v1, p sg (.ok v1 s1) = true ∧ s'.n = s1.n) ∧ Rel r' v x ∧ Sim B0 r' s' w' ∧ Stp r (stE n lu lc) w r' s' w' ∧ inH s'.h lu = true ∧ inH s'.h l' = true := by
  have hsg := sg_ok r J
  have hmem : sgOf r.opn J ∈ allS J := mem_allS (fun j => by rw [opn_of, hb.opq]; exact hE.2 j) J
  generalize sgOf r.opn J = sg at hsg hmem
  have hq := joinB_mem h hmem
  cases he : evF (tabW rows) k g (instA sg ar) (stE n (instL sg lu) (instL sg lc)) with
  | bad => rw [he] at hq; have := hp _ _ hq; cases this
  | ok v' s' =>
    rw [he] at hq
    obtain ⟨q1, q2⟩ := ifB_and (show ifB (sameA v' (instA sg v)) (ifB (inH s'.h (instL sg lu)) (inH s'.h (instL sg l')) false) false = true from hp _ _ hq)
    obtain ⟨q3, q4⟩ := ifB_and q2
    have q1 := sameA_eq q1
    obtain ⟨d1, d2⟩ := ifB_and hd
    refine ((evalW_ok hE hrows k).1 g _ _ v' s' hg he r w args hb (sim_inst hsg hs) (((rel_inst hsg _).2 _).2 hr)).mono fun x w' ⟨r', k1, k2, k3⟩ => ?_
    have hsg' : SgOk r' sg := fun j m hj => by rw [opn_le k3.le]; exact hsg j m hj
    have hin : ∀ b g', (b, g') ∈ lu ∨ (b, g') ∈ l' → Hp.get s'.h b = instG sg g' := fun b g' hm => by
      rcases hm with hm | hm
      · exact inH_mem q3 (List.mem_map.2 ⟨_, hm, rfl⟩)
      · exact inH_mem q4 (List.mem_map.2 ⟨_, hm, rfl⟩)
    have hst : ∀ b, Hp.get (stE s'.n lu l').h b ≠ .no → Hp.get s'.h b = instG sg (Hp.get (stE s'.n lu l').h b) := fun b hno => by
      rcases stE_mem (n := s'.n) (b := b) (lu := lu) (lc := l') with t | ⟨g', t1, t2⟩ | ⟨g', t1, t2⟩
      · exact absurd t hno
      · rw [t2]; exact hin b g' (.inr t1)
      · rw [t2]; exact hin b g' (.inl t1)
    have hlive : ∀ b, (Hp.get (stE s'.n lu l').h b).live → (Hp.get s'.h b).live := fun b hl => by
      rw [hst b (live_ne hl)]; exact live_inst.2 hl
    refine ⟨r', stE s'.n lu l', ⟨sg, s', v', hq, rfl⟩, ((rel_inst hsg' _).1 x).1 (by rw [← q1]; exact k1), ?_, ?_, d1, d2⟩
    · refine ⟨k2.n, k2.lt, k2.low, fun b => ?_, fun b b' h1 h2 e => k2.inj b b' (hlive b h1) (hlive b' h2) e, k2.ety⟩
      by_cases hno : Hp.get (stE s'.n lu l').h b = .no
      · rw [hno]; trivial
      · have := k2.ok b
        rw [hst b hno] at this
        exact (okB_inst hsg').1 this
    · refine ⟨k3.le, k3.os, k3.tape, k3.output, k3.size, fun x hx hn => k3.keep x hx fun b hl => hn b (by rw [stE_inst] at hl; exact live_inst.1 hl), k3.new, fun b hl => ?_⟩
      rcases k3.old b (hlive b hl) with ⟨a, ha, e⟩ | h'
      · rw [stE_inst] at ha
        exact .inl ⟨a, live_inst.1 ha, e⟩
      · exact .inr h'
noncomputable def jmB (lu : BL) (v : AV) (n' : Nat) (l' : BL) (sg : Sg) (o : RC) : Bool := ifB (RC.rec (motive := fun _ => Bool) false (fun _ s => Nat.beq s.n n') o) (joB lu v l' sg o) false
theorem entry_join (J : List Nat) {k g n n' : Nat} {ar v : AV} {lu lc l' : BL} (hrows : ∀ (E : Env) (B0 : Nat), EOk E → RowsOk E B0 rows) (hg : g < yN) (hd : ifB (inH (stE 0 lu l').h lu) (inH (stE 0 lu l').h l') false = true)
    (h : joinB J (fun sg => jmB lu v n' l' sg (evF (tabW rows) k g (instA sg ar) (stE n (instL sg lu) (instL sg lc)))) = true) : EntOk g (.mk ar n lu lc v n' l') := fun E B0 hE r w args hb hs hr =>
  (join_core hg hd (fun sg o ho => (ifB_and ho).2) h hE (hrows E B0 hE) hb hs hr).mono fun x w' ⟨r', s', ⟨sg, s1, v1, q1, q2⟩, k1, k2, k3, k4, k5⟩ => ⟨r', s', k1, k2, k3, q2.trans (Nat.eq_of_beq_eq_true (ifB_and q1).1), k4, k5⟩
theorem entry_joinL (J : List Nat) {k g n : Nat} {ar v : AV} {lu lc l' : BL} (hrows : ∀ (E : Env) (B0 : Nat), EOk E → RowsOk E B0 rows) (hg : g < yN) (hd : ifB (inH (stE 0 lu l').h lu) (inH (stE 0 lu l').h l') false = true)
    (h : manL n ar lu lc v l' (joinB J (fun sg => joB lu v l' sg (evF (tabW rows) k g (instA sg ar) (stE n (instL sg lu) (instL sg lc))))) = true) : EntOk g (.lo ar n lu lc v l') := by
  obtain ⟨q1, h⟩ := ifB_and h
  obtain ⟨q2, h⟩ := ifB_and h
  obtain ⟨q3, h⟩ := ifB_and h
  obtain ⟨q4, h⟩ := ifB_and h
  obtain ⟨q5, h⟩ := ifB_and h
  obtain ⟨q6, h⟩ := ifB_and h
  refine ⟨⟨Nat.le_of_ble_eq_true q1, q2, q3, q4, q5, q6⟩, fun E B0 hE r w args hb hs hr => ?_⟩
  exact (join_core hg hd (fun sg o ho => ho) h hE (hrows E B0 hE) hb hs hr).mono fun x w' ⟨r', s', _, k1, k2, k3, k4, k5⟩ => ⟨r', s', k1, k2, k3, k4, k5⟩
end
end Go.Proofs.YtenpbpgoglepfaaGreatDoor
namespace Go.Proofs.YtenpbpgoglepfaaGreatDoor
open Go.RowKit
set_option linter.unusedVariables false
theorem sameA_refl (v : AV) : sameA v v = true := by
  induction v <;> simp_all [sameA, eqI_eq]
theorem F.all2_refl {α : Type} {p : α → α → Bool} (hp : ∀ a, p a a = true) (t : F α) : F.all2 p t t = true := by
  cases t
  simp only [F.all2, hp, Bool.and_self]
theorem eqCs_refl (c : Cs) : eqCs c c = true := by
  cases c with
  | c1 f => exact F.all2_refl sameA_refl f
  | c2 f => exact F.all2_refl (F.all2_refl sameA_refl) f
  | c3 f => exact F.all2_refl (F.all2_refl (F.all2_refl sameA_refl)) f
theorem eqGB_inst {sg : Sg} {a c : GB} (h : eqGB a c = true) : eqGB (instG sg a) (instG sg c) = true := by
  obtain rfl := eqGB_eq h
  cases a with
  | ro c => exact eqCs_refl _
  | rw c => exact eqCs_refl _
  | mp l => exact sameA_refl _
  | no => cases h
  | lp n => cases h
theorem inH_inst {sg : Sg} {h h' : Hp} (hh : ∀ b, Hp.get h' b = instG sg (Hp.get h b)) : ∀ {l : BL}, inH h l = true → inH h' (instL sg l) = true
  | [], _ => rfl
  | (b, g) :: l, hl => by
    obtain ⟨h1, h2⟩ := ifB_and (show ifB (eqGB (Hp.get h b) g) (inH h l) false = true from hl)
    show ifB (eqGB (Hp.get h' b) (instG sg g)) (inH h' (instL sg l)) false = true
    rw [hh b, eqGB_inst h1, ifB_true]
    exact inH_inst hh h2
theorem sim_uninst {r : Rho} {sg : Sg} (h : SgOk r sg) {B0 n : Nat} {lu lc : BL} {w : World} (hs : Sim B0 r (stE n (instL sg lu) (instL sg lc)) w) : Sim B0 r (stE n lu lc) w :=
  ⟨hs.n, hs.lt, hs.low, fun b => (okB_inst h).1 (by rw [← stE_inst (n := n)]; exact hs.ok b), fun b b' h1 h2 e => hs.inj b b' (by rw [stE_inst]; exact live_inst.2 h1) (by rw [stE_inst]; exact live_inst.2 h2) e, hs.ety⟩
noncomputable def instE (sg : Sg) (e : Ent) : Ent := Ent.rec (motive := fun _ => Ent) (fun ar n lu lc v n' l' => .mk (instA sg ar) n (instL sg lu) (instL sg lc) (instA sg v) n' (instL sg l')) (fun ar n lu lc v l' => .lo ar n lu lc v l') e
/-- What a call leaves can be laid out. -/
noncomputable def hdE (e : Ent) : Bool := Ent.rec (motive := fun _ => Bool) (fun _ _ lu _ _ _ l' => ifB (inH (stE 0 lu l').h lu) (inH (stE 0 lu l').h l') false) (fun _ _ _ _ _ _ => true) e
theorem entAt_inst {o : Nat → Value} {g : Nat} {sg : Sg} (hsg : ∀ j n, sgGet sg j = some n → opnOf o j = n) : ∀ {e : Ent}, hdE e = true → EntOk g e → EntAt o g (instE sg e)
  | .lo .., _, h => h.at
  | .mk ar n lu lc v n' l', hd, h => fun E B0 hE ho r w args hb hs hr => by
    have hd : ifB (inH (stE 0 lu l').h lu) (inH (stE 0 lu l').h l') false = true := hd
    obtain ⟨d1, d2⟩ := ifB_and hd
    have hok : ∀ r' : Rho, r'.opq = o → SgOk r' sg := fun r' hr' j m hj => by rw [opn_of, hr']; exact hsg j m hj
    have hs0 : SgOk r sg := hok r (hb.opq.trans ho)
    refine (h E B0 hE r w args hb (sim_uninst hs0 hs) (((rel_inst hs0 _).2 _).1 hr)).mono fun x w' ⟨r', s', k1, k2, k3, k4, k5, k6⟩ => ?_
    have hs1 : SgOk r' sg := hok r' (k3.le.opq.trans (hb.opq.trans ho))
    have hsub := stE_sub (n := s'.n) k5 k6
    have hlive : ∀ b, (Hp.get (stE s'.n lu l').h b).live → (Hp.get s'.h b).live := fun b hl => by
      rcases hsub b with t | t
      · rw [t] at hl; exact hl.elim
      · rw [← t]; exact hl
    refine ⟨r', stE s'.n (instL sg lu) (instL sg l'), ((rel_inst hs1 _).1 x).2 k1, sim_inst hs1 (k2.sub rfl hsub), ?_, k4, inH_inst (fun b => stE_inst 0 lu l' b) d1, inH_inst (fun b => stE_inst 0 lu l' b) d2⟩
    refine ⟨k3.le, k3.os, k3.tape, k3.output, k3.size, fun x hx hn => k3.keep x hx fun b hl => hn b (by rw [stE_inst]; exact live_inst.2 hl), k3.new, fun b hl => ?_⟩
    rw [stE_inst] at hl
    rcases k3.old b (hlive b (live_inst.1 hl)) with ⟨a, ha, e⟩ | h'
    · exact .inl ⟨a, by rw [stE_inst]; exact live_inst.2 ha, e⟩
    · exact .inr h'
theorem entsAt_nil {o : Nat → Value} {g : Nat} : ∀ e ∈ ([] : List Ent), EntAt o g e := fun e h => by cases h
theorem entsAt_cons {o : Nat → Value} {g : Nat} {e : Ent} {es : List Ent} (h : EntAt o g e) (k : ∀ e ∈ es, EntAt o g e) : ∀ e' ∈ e :: es, EntAt o g e' := fun e' hm => by
  rcases List.mem_cons.1 hm with rfl | hm
  · exact h
  · exact k e' hm
theorem fnOk_esF {E : Env} {B0 g : Nat} (hE : EOk E) {es : List Ent} (h : ∀ e ∈ es, EntAt E.opq g e) : FnOk Tryz.prog E B0 g (esF g es) := fnOk_look hE (tab_ok hE.1 g) h
end Go.Proofs.YtenpbpgoglepfaaGreatDoor
namespace Go.Proofs.YtenpbpgoglepfaaGreatDoor
open Go.RowKit
set_option linter.unusedVariables false
noncomputable def pqFind (l : List (Nat × Nat × AV)) (x y : AV) (s : St) : RC := List.rec (motive := fun _ => RC) .bad (fun e _ ih => Prod.rec (motive := fun _ => RC) (fun k p => Prod.rec (motive := fun _ => RC) (fun m q => ifB (sameA x (markA k)) (ifB (sameA y (n64 m)) (.ok q s) ih) ih) p) e) l
noncomputable def prPq (l : List (Nat × Nat × AV)) : CallE → AV → St → RC := fun _ ar s => AV.onC ar .bad fun x t => AV.onC t .bad fun y z => AV.isNil z .bad (pqFind l x y s)
def PqOk (o : Nat → Value) (e : Nat × Nat × AV) : Prop := ∃ n : Int, o e.1 = .int .i64 n ∧ (∀ r : Rho, r.opq = o → Rel r e.2.2 (.int .i64 (n % (e.2.1 : Int)))) ∧ 0 < e.2.1 ∧ e.2.1 ≤ 4611686018427387904
theorem pqFind_ok {o : Nat → Value} {x y v : AV} {s s' : St} : ∀ {l : List (Nat × Nat × AV)}, (∀ e ∈ l, PqOk o e) → pqFind l x y s = .ok v s' → ∃ k m, PqOk o (k, m, v) ∧ x = markA k ∧ y = n64 m ∧ s' = s
  | [], _, h => by cases h
  | (k, m, q) :: l, hl, h => by
    have ih := pqFind_ok (l := l) (x := x) (y := y) (v := v) (s := s) (s' := s') fun e he => hl e (List.mem_cons_of_mem _ he)
    have h : ifB (sameA x (markA k)) (ifB (sameA y (n64 m)) (RC.ok q s) (pqFind l x y s)) (pqFind l x y s) = .ok v s' := h
    rcases h1 : sameA x (markA k) with _ | _
    · rw [h1] at h; exact ih h
    rcases h2 : sameA y (n64 m) with _ | _
    · rw [h1, h2] at h; exact ih h
    rw [h1, h2] at h
    injection h with e1 e2
    exact ⟨k, m, e1 ▸ hl _ (List.mem_cons_self ..), sameA_eq h1, sameA_eq h2, e2.symm⟩
theorem prPq_ok {E : Env} {B0 : Nat} {l : List (Nat × Nat × AV)} (hl : ∀ e ∈ l, PqOk E.opq e) : FnOk Tryz.prog E B0 8 (.pr (prPq l)) := fun ih _ ar s v s' hrun r w args hb hs hr => by
  have hent : ∀ args w, (callFunc 8 args).run Tryz.prog w = .ok (.enter 8 args) w := ent_of Tryz.func8 (by kernel_rfl) rfl
  replace hrun : AV.onC ar RC.bad (fun x t => AV.onC t RC.bad fun y z => AV.isNil z RC.bad (pqFind l x y s)) = .ok v s' := hrun
  cases ar
  case cons x t =>
    replace hrun : AV.onC t RC.bad (fun y z => AV.isNil z RC.bad (pqFind l x y s)) = .ok v s' := hrun
    cases t
    case cons y z =>
      cases z
      case nil =>
        replace hrun : pqFind l x y s = .ok v s' := hrun
        obtain ⟨k, m, ⟨n, h1, h2, h3, h4⟩, rfl, rfl, rfl⟩ := pqFind_ok hl hrun
        obtain ⟨a, c, rfl, k1, k2⟩ := args_two hr
        rw [rel_mark, hb.opq] at k1
        have k1 : a = .int .i64 n := k1.trans h1
        have k2 : c = .int .i64 (m : Int) := k2
        subst k1 k2
        exact .inl ⟨hent _ _, (place_any n m w (by have : 0 < m := h3; omega) (by have : m ≤ 4611686018427387904 := h4; omega)).mono fun e w' ⟨he, hw⟩ => ⟨_, he, r, h2 r hb.opq, hw ▸ hs, hw ▸ .refl r s' w⟩⟩
      all_goals cases hrun
    all_goals cases hrun
  all_goals cases hrun
theorem pq_nil {o : Nat → Value} : ∀ e ∈ ([] : List (Nat × Nat × AV)), PqOk o e := fun e h => by cases h
theorem pq_cons {o : Nat → Value} {e : Nat × Nat × AV} {l : List (Nat × Nat × AV)} (h : PqOk o e) (k : ∀ e ∈ l, PqOk o e) : ∀ e' ∈ e :: l, PqOk o e' := fun e' hm => by
  rcases List.mem_cons.1 hm with rfl | hm
  · exact h
  · exact k e' hm
/-- Four numbers: as they are given, and as places. -/
def o4 (x y u v : Int) : Nat → Value := fun i => match i with
  | 0 => .int .i64 x | 1 => .int .i64 y | 2 => .int .i64 u | 3 => .int .i64 v
  | 1000 => .int .i64 (x % 8) | 1001 => .int .i64 (y % 8) | 1002 => .int .i64 (u % 8) | 1003 => .int .i64 (v % 8)
  | _ => .int .i64 0
def x4 (x y u v : Int) : Nat → Int := fun j => match j with | 0 => x | 1 => y | 2 => u | _ => v
theorem o4_num (x y u v : Int) {j : Nat} (h : j < 4) : o4 x y u v j = .int .i64 (x4 x y u v j) := by
  have : j = 0 ∨ j = 1 ∨ j = 2 ∨ j = 3 := by omega
  rcases this with rfl | rfl | rfl | rfl <;> rfl
theorem o4_val (x y u v : Int) {j : Nat} (h : j < 4) : opnOf (o4 x y u v) j = (x4 x y u v j % 8).toNat := by
  have key : ∀ n : Int, (n % 8).toNat % 256 = (n % 8).toNat := fun n => by omega
  have : j = 0 ∨ j = 1 ∨ j = 2 ∨ j = 3 := by omega
  rcases this with rfl | rfl | rfl | rfl <;> exact key _
theorem o4_good (x y u v : Int) : Good (o4 x y u v) := fun j => by
  by_cases h : j < 4
  · rw [o4_val x y u v h]; omega
  · have e : o4 x y u v (1000 + j) = .int .i64 0 := by
      unfold o4
      split <;> first | rfl | omega
    show (match o4 x y u v (1000 + j) with | .int _ n => n.toNat | _ => 0) % 256 < 8
    rw [e]
    decide
/-- A place that stays opaque. -/
theorem pq_q (x y u v : Int) {j : Nat} (h : j < 4) : PqOk (o4 x y u v) (j, 8, .q .i64 j) := ⟨x4 x y u v j, o4_num x y u v h, fun r hr => by
  show Value.int .i64 (x4 x y u v j % 8) = .int .i64 (.ofNat (r.opn j))
  rw [opn_of, hr, o4_val x y u v h]
  congr 1
  show _ = ((x4 x y u v j % 8).toNat : Int)
  omega, by show 0 < (8 : Nat); decide, by show (8 : Nat) ≤ 4611686018427387904; decide⟩
/-- A place that is looked at. -/
theorem pq_n (x y u v : Int) {j a : Nat} (h : j < 4) (ha : x4 x y u v j % 8 = (a : Int)) : PqOk (o4 x y u v) (j, 8, n64 a) := ⟨x4 x y u v j, o4_num x y u v h, fun r hr => by
  show Value.int .i64 (x4 x y u v j % 8) = .int .i64 (.ofNat a)
  rw [ha]; rfl, by show 0 < (8 : Nat); decide, by show (8 : Nat) ≤ 4611686018427387904; decide⟩
theorem sg_two (x y u v : Int) {i j a b : Nat} (hi : i < 4) (hj : j < 4) (ha : x4 x y u v i % 8 = (a : Int)) (hb : x4 x y u v j % 8 = (b : Int)) : ∀ k n, sgGet [(i, a), (j, b)] k = some n → opnOf (o4 x y u v) k = n := fun k n h0 => by
  have hk : ifB (Nat.beq i k) (some a) (ifB (Nat.beq j k) (some b) none) = some n := h0
  rcases h1 : Nat.beq i k with _ | _
  · rw [h1] at hk
    clear h0
    rcases h2 : Nat.beq j k with _ | _
    · rw [h2] at hk; cases hk
    · rw [h2] at hk
      obtain rfl := Nat.eq_of_beq_eq_true h2
      obtain rfl := Option.some.inj hk
      rw [o4_val x y u v hj, hb]; rfl
  · rw [h1] at hk
    obtain rfl := Nat.eq_of_beq_eq_true h1
    obtain rfl := Option.some.inj hk
    rw [o4_val x y u v hi, ha]; rfl
end Go.Proofs.YtenpbpgoglepfaaGreatDoor
namespace Go.Proofs.YtenpbpgoglepfaaGreatDoor
open Go.RowKit
set_option linter.unusedVariables false
theorem rempty_any (x y a c : Nat) (b : Bool) (hb : b = decide (a < 1 ∨ c < 1)) (w : World) : Calls Tryz.prog 191 #[.agg #[.int .i64 x, .int .i64 y, .int .i64 a, .int .i64 c]] w fun e w' => e = .returned (.bool b) ∧ Below w.heap.size w w' := by
  have HB := Lib.hid hb
  clear hb
  by_cases h1 : (a : Int) < 1
  · have H := Lib.hid h1
    go_enter Tryz.func191, Tryz.ntmps191
    go_wp2
    go_ret
    exact ⟨by rw [HB.out, decide_eq_true (by omega)]; rfl, (Below.refl _ _).alloc (Nat.le_refl _) _⟩
  · by_cases h2 : (c : Int) < 1
    · have H := Lib.hid h2
      go_enter Tryz.func191, Tryz.ntmps191
      go_wp2
      go_ret
      exact ⟨by rw [HB.out, decide_eq_true (by omega)]; rfl, (Below.refl _ _).alloc (Nat.le_refl _) _⟩
    · have H := Lib.hid h1
      have H2 := Lib.hid h2
      go_enter Tryz.func191, Tryz.ntmps191
      go_wp2
      go_ret
      exact ⟨by rw [HB.out, decide_eq_false (by have := H.out; have := H2.out; omega)]; rfl, (Below.refl _ _).alloc (Nat.le_refl _) _⟩
theorem rhas_any (a s n : Nat) (ha : a < 2147483648) (hs : s < 2147483648) (hn : n < 2147483648) (b : Bool) (hb : b = decide (a ≤ n ∧ n - a < s)) (w : World) : Calls Tryz.prog 259 #[.int .i64 a, .int .i64 s, .int .i64 n] w fun e w' => e = .returned (.bool b) ∧ Below w.heap.size w w' := by
  have HB := Lib.hid hb
  clear hb
  by_cases h1 : (a : Int) ≤ n
  · have H := Lib.hid h1
    go_enter Tryz.func259, Tryz.ntmps259
    go_wp2
    go_ret
    refine ⟨?_, Below.refl _ _⟩
    have : decide ((n : Int) - a < s) = b := by rw [HB.out]; apply decide_eq_decide.2; have := H.out; omega
    rw [← this]
    rfl
  · have H := Lib.hid h1
    go_enter Tryz.func259, Tryz.ntmps259
    go_wp2
    go_ret
    exact ⟨by rw [HB.out, decide_eq_false (by have := H.out; omega)]; rfl, Below.refl _ _⟩
theorem rHas_any (X Y W H x y : Nat) (hX : X < 2147483648) (hY : Y < 2147483648) (hW : W < 2147483648) (hH : H < 2147483648) (hx : x < 2147483648) (hy : y < 2147483648) (e b1 b2 : Bool) (he : e = decide (W < 1 ∨ H < 1)) (h1 : b1 = decide (X ≤ x ∧ x - X < W)) (h2 : b2 = decide (Y ≤ y ∧ y - Y < H)) (w : World) :
    Calls Tryz.prog 196 #[.agg #[.int .i64 X, .int .i64 Y, .int .i64 W, .int .i64 H], .int .i64 x, .int .i64 y] w fun r w' => r = .returned (.bool (!e && (b1 && b2))) ∧ Below w.heap.size w w' := by
  have HX := Lib.hid hX
  have HY := Lib.hid hY
  have HW := Lib.hid hW
  have HH := Lib.hid hH
  have Hx := Lib.hid hx
  have Hy := Lib.hid hy
  have HE := Lib.hid he
  have H1 := Lib.hid h1
  have H2 := Lib.hid h2
  clear hX hY hW hH hx hy he h1 h2
  go_enter Tryz.func196, Tryz.ntmps196
  go_wp2_with fail
  refine (rempty_any X Y W H e HE.out _).mono ?_
  rintro r w2 ⟨rfl, hb2⟩
  have hk := (Blk.new w 153 #[.int .i64 X, .int .i64 Y, .int .i64 W, .int .i64 H]).below hb2 (Blk.new w 153 #[.int .i64 X, .int .i64 Y, .int .i64 W, .int .i64 H]).lt
  have HB2 := Lib.hid (((Below.refl w.heap.size w).alloc (Nat.le_refl _) (.cells #[.int .i64 X, .int .i64 Y, .int .i64 W, .int .i64 H] 153)).trans (hb2.mono (by rw [World.size_alloc]; omega)))
  clear hb2
  have c0 : w2.cell? ⟨w.heap.size, 0, none⟩ = some (.int .i64 X) := hk.cell 0
  have c1 : w2.cell? ⟨w.heap.size, 1, none⟩ = some (.int .i64 Y) := hk.cell 1
  have c2 : w2.cell? ⟨w.heap.size, 2, none⟩ = some (.int .i64 W) := hk.cell 2
  have c3 : w2.cell? ⟨w.heap.size, 3, none⟩ = some (.int .i64 H) := hk.cell 3
  have HK := Lib.hid hk
  clear hk
  cases e
  · go_wp2_with fail
    refine (rhas_any X W x HX.out HW.out Hx.out b1 H1.out _).mono ?_
    rintro r w3 ⟨rfl, hb3⟩
    have hk := HK.out.below hb3 HK.out.lt
    have HB3 := Lib.hid (HB2.out.trans (hb3.mono HB2.out.size))
    clear hb3
    have d1 : w3.cell? ⟨w.heap.size, 1, none⟩ = some (.int .i64 Y) := hk.cell 1
    have d3 : w3.cell? ⟨w.heap.size, 3, none⟩ = some (.int .i64 H) := hk.cell 3
    clear hk
    cases b1
    · go_wp2
      go_ret
      exact ⟨rfl, HB3.out⟩
    · go_wp2_with fail
      refine (rhas_any Y H y HY.out HH.out Hy.out b2 H2.out _).mono ?_
      rintro r w4 ⟨rfl, hb4⟩
      have HB4 := Lib.hid (HB3.out.trans (hb4.mono HB3.out.size))
      clear hb4
      go_wp2
      go_ret
      exact ⟨rfl, HB4.out⟩
  · go_wp2
    go_ret
    exact ⟨rfl, HB2.out⟩
/-- A number below this is asked for. -/
noncomputable def i63 {β : Type} (v : AV) (z : β) (f : Nat → β) : β := AV.rec (motive := fun _ => β) z (fun k n => Int.rec (motive := fun _ => β) (fun n => ifB (Nat.beq (kN k) (kN .i64)) (ifB (Nat.blt n 2147483648) (f n) z) z) (fun _ => z) n) (fun _ => z) (fun _ _ => z) z (fun _ _ _ _ _ _ => z) z (fun _ => z) (fun _ => z) z (fun _ _ _ _ _ => z) z (fun _ _ _ => z) z z (fun _ _ _ _ => z) (fun _ _ => z) (fun _ _ => z) (fun _ => z) (fun _ _ => z) v
theorem i63_ok {β : Type} {v : AV} {z : β} {f : Nat → β} {P : β → Prop} (hz : ¬ P z) (h : P (i63 v z f)) : ∃ n, v = n64 n ∧ n < 2147483648 ∧ P (f n) := by
  cases v with
  | i k n =>
    cases n with
    | ofNat n =>
      have h : P (ifB (Nat.beq (kN k) (kN .i64)) (ifB (Nat.blt n 2147483648) (f n) z) z) := h
      rcases h1 : Nat.beq (kN k) (kN .i64) with _ | _
      · rw [h1] at h; exact absurd h hz
      rcases h2 : Nat.blt n 2147483648 with _ | _
      · rw [h1, h2] at h; exact absurd h hz
      rw [h1, h2] at h
      exact ⟨n, by rw [kN_inj h1]; rfl, blt_lt h2, h⟩
    | negSucc n => exact absurd h hz
  | _ => exact absurd h hz
noncomputable def inB (a s n : Nat) : Bool := ifB (Nat.ble a n) (Nat.blt (Nat.sub n a) s) false
theorem inB_eq (a s n : Nat) : inB a s n = decide (a ≤ n ∧ n - a < s) := by
  unfold inB
  rcases h : Nat.ble a n with _ | _
  · symm
    apply decide_eq_false
    rintro ⟨h1, _⟩
    rw [Nat.ble_eq_true_of_le h1] at h
    cases h
  · have h1 := Nat.le_of_ble_eq_true h
    show Nat.blt (n - a) s = _
    rw [blt_eq]
    exact decide_eq_decide.2 ⟨fun k => ⟨h1, k⟩, fun k => k.2⟩
noncomputable def hasB (X Y W H x y : Nat) : Bool := ifB (Nat.blt W 1) false (ifB (Nat.blt H 1) false (ifB (inB X W x) (inB Y H y) false))
noncomputable def aggL (v : AV) : AV := AV.rec (motive := fun _ => AV) .u (fun _ _ => .u) (fun _ => .u) (fun _ _ => .u) .u (fun _ _ _ _ _ _ => .u) .u (fun _ => .u) (fun _ => .u) .u (fun _ _ _ _ _ => .u) .u (fun _ _ _ => .u) .u .u (fun _ _ _ _ => .u) (fun l _ => l) (fun _ _ => .u) (fun _ => .u) (fun _ _ => .u) v
noncomputable def prHas : CallE → AV → St → RC := fun _ ar s => AV.onC ar .bad fun a t => AV.onC t .bad fun vx t => AV.onC t .bad fun vy t => AV.isNil t .bad (AV.onC (aggL a) .bad fun aX t => AV.onC t .bad fun aY t => AV.onC t .bad fun aW t => AV.onC t .bad fun aH t => AV.isNil t .bad (i63 aX .bad fun X => i63 aY .bad fun Y => i63 aW .bad fun W => i63 aH .bad fun H => i63 vx .bad fun x => i63 vy .bad fun y => .ok (.b (hasB X Y W H x y)) s))
theorem onC_ok {v a : AV} {s : St} {f : AV → AV → RC} (h : AV.onC v RC.bad f = .ok a s) : ∃ x t, v = .cons x t ∧ f x t = .ok a s := by
  cases v with
  | cons x t => exact ⟨x, t, rfl, h⟩
  | _ => cases h
theorem isNil_ok {v a : AV} {s : St} {f : RC} (h : AV.isNil v RC.bad f = .ok a s) : v = .nil ∧ f = .ok a s := by
  cases v with
  | nil => exact ⟨rfl, h⟩
  | _ => cases h
theorem aggL_cons {a x t : AV} (h : aggL a = .cons x t) : a = .agg (.cons x t) := by
  cases a with
  | agg l => have h : l = .cons x t := h; rw [h]
  | _ => cases h
theorem prHas_ok {E : Env} {B0 : Nat} : FnOk Tryz.prog E B0 196 (.pr prHas) := fun ih _ ar s v s' hrun r w args hb hs hr => by
  have hent : ∀ args w, (callFunc 196 args).run Tryz.prog w = .ok (.enter 196 args) w := ent_of Tryz.func196 (by kernel_rfl) rfl
  have h0 : prHas ih ar s = .ok v s' := hrun
  unfold prHas at h0
  clear hrun
  obtain ⟨a, t, rfl, h1⟩ := onC_ok h0
  obtain ⟨vx, t, rfl, h2⟩ := onC_ok h1
  obtain ⟨vy, t, rfl, h3⟩ := onC_ok h2
  obtain ⟨rfl, h4⟩ := isNil_ok h3
  obtain ⟨aX, t, ea, h5⟩ := onC_ok h4
  obtain ⟨aY, t, rfl, h6⟩ := onC_ok h5
  obtain ⟨aW, t, rfl, h7⟩ := onC_ok h6
  obtain ⟨aH, t, rfl, h8⟩ := onC_ok h7
  obtain ⟨rfl, h9⟩ := isNil_ok h8
  have hz : ¬ RC.bad = RC.ok v s' := fun h => by cases h
  obtain ⟨X, rfl, hX, h10⟩ := i63_ok (P := fun x => x = RC.ok v s') hz h9
  obtain ⟨Y, rfl, hY, h11⟩ := i63_ok (P := fun x => x = RC.ok v s') hz h10
  obtain ⟨W, rfl, hW, h12⟩ := i63_ok (P := fun x => x = RC.ok v s') hz h11
  obtain ⟨H, rfl, hH, h13⟩ := i63_ok (P := fun x => x = RC.ok v s') hz h12
  obtain ⟨x, rfl, hx, h14⟩ := i63_ok (P := fun x => x = RC.ok v s') hz h13
  obtain ⟨y, rfl, hy, h15⟩ := i63_ok (P := fun x => x = RC.ok v s') hz h14
  obtain rfl := aggL_cons ea
  injection h15 with e1 e2
  subst e1 e2
  have hr : ∃ u1 us, args.toList = u1 :: us ∧ Rel r (.agg (.cons (n64 X) (.cons (n64 Y) (.cons (n64 W) (.cons (n64 H) .nil))))) u1 ∧ ∃ u2 us2, us = u2 :: us2 ∧ Rel r (n64 x) u2 ∧ ∃ u3 us3, us2 = u3 :: us3 ∧ Rel r (n64 y) u3 ∧ us3 = [] := hr
  obtain ⟨u1, us, k0, ⟨b, rfl, hb1⟩, u2, us2, rfl, k2, u3, us3, rfl, k3, rfl⟩ := hr
  have hb1 : ∃ c1 cs, b.toList = c1 :: cs ∧ c1 = .int .i64 (X : Int) ∧ ∃ c2 cs2, cs = c2 :: cs2 ∧ c2 = .int .i64 (Y : Int) ∧ ∃ c3 cs3, cs2 = c3 :: cs3 ∧ c3 = .int .i64 (W : Int) ∧ ∃ c4 cs4, cs3 = c4 :: cs4 ∧ c4 = .int .i64 (H : Int) ∧ cs4 = [] := hb1
  obtain ⟨c1, cs, j0, rfl, c2, cs2, rfl, rfl, c3, cs3, rfl, rfl, c4, cs4, rfl, rfl, rfl⟩ := hb1
  have k2 : u2 = .int .i64 (x : Int) := k2
  have k3 : u3 = .int .i64 (y : Int) := k3
  subst k2 k3
  have eb : b = #[.int .i64 X, .int .i64 Y, .int .i64 W, .int .i64 H] := by rw [← Array.toList_inj, j0]
  subst eb
  have ea : args = #[.agg #[.int .i64 X, .int .i64 Y, .int .i64 W, .int .i64 H], .int .i64 x, .int .i64 y] := by rw [← Array.toList_inj, k0]
  subst ea
  refine .inl ⟨hent _ _, (rHas_any X Y W H x y hX hY hW hH hx hy _ _ _ rfl rfl rfl w).mono fun e w' ⟨he, hw⟩ => ⟨_, he, r, ?_, ?_⟩⟩
  · show Value.bool _ = .bool (hasB X Y W H x y)
    congr 1
    unfold hasB
    rw [inB_eq, inB_eq, blt_eq, blt_eq]
    by_cases q1 : W < 1 <;> by_cases q2 : H < 1 <;> simp [q1, q2, ifB_eq]
  · obtain ⟨m1, m2⟩ := hs.more hw
    exact ⟨m1, m2⟩
end Go.Proofs.YtenpbpgoglepfaaGreatDoor
namespace Go.Proofs.YtenpbpgoglepfaaGreatDoor
open Go.RowKit Go.ChangeShapes
set_option linter.unusedVariables false
set_option maxRecDepth 100000 in
theorem laid_glob {W : World} : ∀ (S : List Nat) (ps : List MemPlace), (∀ k ∈ S, Tryz.prog.globalNamed (gname k) = some (gno k) ∧ (Tryz.prog.globals[gno k]?).map (·.type) = some 26) → DataW.LaidVars Tryz.prog W (S.map mkLaid) ps →
    (∀ b off, MemPlace.cell b off ∈ ps → (∃ c t, W.heap[b]? = some (.cells c t (0, 0))) ∧ ∀ u v, W.cell? ⟨b, off, none⟩ = some (.iface u v) → Value.okWide Tryz.prog W .any 0 u v) →
    ∀ k ∈ S, MemPlace.cell (gno k) 0 ∈ ps
  | [], ps, _, h, _, k, hk => by cases hk
  | k0 :: S, ps, hS, h, hrows, k, hk => by
    obtain ⟨g0, t0, cs0, f0, p0, q0, hg0, ht0, hv0, hd0, hq, e0⟩ := h
    subst e0
    obtain ⟨hg, ht⟩ := hS k0 (by simp)
    obtain rfl := Option.some.inj (hg.symm.trans hg0)
    obtain rfl := Option.some.inj (ht.symm.trans ht0)
    obtain ⟨l0⟩ := cs0
    have hcell : ∀ x, l0 = [x] → W.cell? ⟨gno k0, 0, none⟩ = some x := fun x e => by subst e; simpa using World.var?_cell hg hv0 0
    have ok0 : ∀ u v, l0 = [.iface u v] → Value.okWide Tryz.prog W .any 0 u v := fun u v e => by
      have := hcell _ e
      subst e
      exact (hrows (gno k0) 0 (by simp [MemPlace.row])).2 u v this
    obtain ⟨a0, s0, e1, _, _, _, e2⟩ := errorString_of_trod Tryz.underlying26 Tryz.rowErr Tryz.underlying465 Tryz.underlying484 rfl rfl Tryz.underlying9 Tryz.cellsES Tryz.cellsSt hd0 ok0
    rcases List.mem_cons.1 hk with rfl | hk
    · have e1' : l0.toArray.size = 1 := by simp at e1; rw [e1]; rfl
      rw [e1']
      simp [MemPlace.row]
    · have := laid_glob S q0 (fun j hj => hS j (List.mem_cons_of_mem _ hj)) hq (fun b off hm => hrows b off (by simp [hm])) k hk
      simp [this]
theorem globs_of_list {W : World} (S : List Nat) (hS : ∀ k ∈ S, Tryz.prog.globalNamed (gname k) = some (gno k) ∧ (Tryz.prog.globals[gno k]?).map (·.type) = some 26) (h : laidMet Tryz.prog (S.map mkLaid) W) :
    ∀ k ∈ S, ∃ c t, W.heap[gno k]? = some (.cells c t (0, 0)) := fun k hk => by
  obtain ⟨ps, hv, hn, hrows⟩ := h
  exact (hrows _ _ (laid_glob S ps hS hv hrows k hk)).1
end Go.Proofs.YtenpbpgoglepfaaGreatDoor
namespace Go.Proofs.YtenpbpgoglepfaaGreatDoor
open Go.RowKit Go.ChangeShapes
set_option linter.unusedVariables false
theorem et_named : Tryz.prog.globalNamed "errors.errorType" = some 15 := by kernel_rfl
theorem et_rt : (Tryz.prog.cutTypes.find? (·.1 == "internal/reflectlite.rtype")).map (·.2) = some 360 := by kernel_rfl
theorem et_row : ((List.range (596 - 100)).filter fun t => Tryz.prog.rowNamed t [101, 114, 114, 111, 114]) = [26] := by kernel_rfl
theorem et_size : Tryz.prog.types.size = 596 - 100 := by kernel_rfl
theorem et_of_laid {W : World} (h : handlesMet Tryz.prog [("errors.errorType", Rows.laid_errors_errorType)] W) : ETy0 W.heap.size W := by
  obtain ⟨name, u, ty, e1, e2, e3, e4, e5⟩ := h _ (List.mem_singleton.2 rfl)
  have en : name = [101, 114, 114, 111, 114] := (Option.some.inj e1).symm
  subst en
  obtain rfl := Option.some.inj (et_rt.symm.trans e2)
  have hm : ty ∈ (List.range (596 - 100)).filter fun t => Tryz.prog.rowNamed t [101, 114, 114, 111, 114] := List.mem_filter.2 ⟨List.mem_range.2 (by rw [← et_size]; exact e3), e4⟩
  rw [et_row] at hm
  obtain rfl := List.mem_singleton.1 hm
  have hh : typeHandle Tryz.prog 26 = .pointer (some ⟨18, 26, none⟩) := by kernel_rfl
  rw [hh] at e5
  unfold World.var? at e5
  rw [et_named, Option.bind_some] at e5
  split at e5
  · rename_i cs t f hc
    cases e5
    exact ⟨(Array.getElem?_eq_some_iff.1 hc).1, t, f, hc⟩
  · cases e5
theorem gn_all : ∀ k ∈ allE, Tryz.prog.globalNamed (gname k) = some (gno k) ∧ (Tryz.prog.globals[gno k]?).map (·.type) = some 26 := fun k hk => by
  simp only [allE, List.mem_cons, List.not_mem_nil, or_false] at hk
  rcases hk with rfl | rfl | rfl | rfl | rfl | rfl | rfl | rfl | rfl | rfl | rfl | rfl | rfl | rfl | rfl | rfl
  · exact gn1
  · exact gn2
  · exact gn3
  · exact gn4
  · exact gn5
  · exact gn6
  · exact gn7
  · exact gn8
  · exact gn9
  · exact gn10
  · exact gn11
  · exact gn12
  · exact gn13
  · exact gn14
  · exact gn15
  · exact gn16
theorem top_met {W : World} (h : laidMet Tryz.prog (allE.map mkLaid) W ∧ handlesMet Tryz.prog [("errors.errorType", Rows.laid_errors_errorType)] W) : ∃ A, Errs W W.heap.size allE A ∧ ETy0 W.heap.size W ∧ ∀ k ∈ allE, ∃ c t, W.heap[gno k]? = some (.cells c t (0, 0)) := by
  obtain ⟨A, hA⟩ := errs_of_list allE gn_all h.1
  exact ⟨A, hA, et_of_laid h.2, globs_of_list allE gn_all h.1⟩
end Go.Proofs.YtenpbpgoglepfaaGreatDoor
namespace Go.Proofs.YtenpbpgoglepfaaGreatDoor
open Go.RowKit
set_option linter.unusedVariables false
set_option maxRecDepth 100000
noncomputable def wg0 : GB := (.rw (Cs.putL (L [(n64 24), (n64 16), (.s 34 0 1 384 384 true)]) 0 (Cs.mk 3)))
noncomputable def wg1 : GB := (.rw (Cs.putL (L [(n64 0), (n64 0), (n64 24), (n64 16)]) 0 (Cs.mk 4)))
noncomputable def wg2 : GB := (.rw (Cs.putL (L [(n32 4279246896)]) 0 (Cs.mk 1)))
noncomputable def wg3 : GB := (.rw (.c3 (.mk (F.all (F.all (n32 0))) (.mk (F.all (n32 0)) (F.all (n32 0)) (F.all (n32 0)) (F.all (n32 0)) (F.all (n32 0)) (F.all (n32 0)) (F.all (n32 0)) (F.all (n32 0)) (F.all .u) (F.all .u) (F.all .u) (F.all .u) (F.all .u) (F.all .u) (F.all .u) (F.all .u)) (F.all (F.all .u)) (F.all (F.all .u)) (F.all (F.all .u)) (F.all (F.all .u)) (F.all (F.all .u)) (F.all (F.all .u)) (F.all (F.all .u)) (F.all (F.all .u)) (F.all (F.all .u)) (F.all (F.all .u)) (F.all (F.all .u)) (F.all (F.all .u)) (F.all (F.all .u)) (F.all (F.all .u)))))
noncomputable def wg4 : GB := (.rw (.c3 (.mk (F.all (F.all (n32 4279246896))) (.mk (F.all (n32 4279246896)) (F.all (n32 4279246896)) (F.all (n32 4279246896)) (F.all (n32 4279246896)) (F.all (n32 4279246896)) (F.all (n32 4279246896)) (F.all (n32 4279246896)) (F.all (n32 4279246896)) (F.all .u) (F.all .u) (F.all .u) (F.all .u) (F.all .u) (F.all .u) (F.all .u) (F.all .u)) (F.all (F.all .u)) (F.all (F.all .u)) (F.all (F.all .u)) (F.all (F.all .u)) (F.all (F.all .u)) (F.all (F.all .u)) (F.all (F.all .u)) (F.all (F.all .u)) (F.all (F.all .u)) (F.all (F.all .u)) (F.all (F.all .u)) (F.all (F.all .u)) (F.all (F.all .u)) (F.all (F.all .u)))))
/-- (*tableau/canvas.Canvas).each -/
noncomputable def we0a : AV := (L [(.p 35 0), (.s 36 0 4 1 1 true), (.f 132 .nil (L [(.p 37 0)]))])
noncomputable def we0u : BL := [(35, wg0), (36, wg1), (37, wg2)]
noncomputable def we0c : BL := [(34, wg3)]
noncomputable def we0l : BL := [(34, wg4)]
noncomputable def we0v : AV := (.tup .nil)
noncomputable def we0 : Ent := .lo we0a 38 we0u we0c we0v we0l
noncomputable def wg5 : GB := (.ro (Cs.putL (L [(.ifc 465 (.p 18 0))]) 0 (Cs.mk 1)))
noncomputable def wg6 : GB := (.ro (Cs.putL (L [(.ifc 465 (.p 31 0))]) 0 (Cs.mk 1)))
noncomputable def wg7 : GB := (.ro (Cs.putL (L [(.ifc 465 (.p 19 0))]) 0 (Cs.mk 1)))
noncomputable def wg8 : GB := (.ro (Cs.putL (L [(.str [115, 104, 111, 114, 116])]) 0 (Cs.mk 1)))
noncomputable def wg9 : GB := (.rw (Cs.putL (L [(.m 39)]) 0 (Cs.mk 1)))
noncomputable def wg10 : GB := (.rw (Cs.putL (L [(.m 43), (.m 44)]) 0 (Cs.mk 2)))
noncomputable def wg11 : GB := (.rw (.c1 (.mk (n64 1) (.m 38) (.p 35 0) (.p 40 0) (.p 42 0) (.p 45 0) (.m 46) (n64 0) (.p 49 0) (.p 50 0) (.m 51) (n64 0) (.p 52 0) (n64 0) (n64 0) (n64 0))))
noncomputable def wg12 : GB := (.rw (Cs.putL (L [(.p 53 0), (n64 16384), (.s 83 0 1 1 1 false)]) 0 (Cs.mk 3)))
noncomputable def wg13 : GB := (.rw (Cs.putL (L [(.m 73)]) 0 (Cs.mk 1)))
noncomputable def wg14 : GB := (.mp (L [(n64 1), (.s 86 0 1 4096 4096 true)]))
noncomputable def wg15 : GB := (.rw (Cs.putL (L [(.m 75)]) 0 (Cs.mk 1)))
noncomputable def wg16 : GB := (.rw (Cs.putL (L [(.p 74 0), (.m 66), (.m 67), (.p 76 0), (.p 77 0), .ns]) 0 (Cs.mk 6)))
noncomputable def wg17 : GB := (.rw (Cs.putL (L [(.p 79 0), (.p 80 0), .ns, (.b true)]) 0 (Cs.mk 4)))
noncomputable def wg18 : GB := (.rw (Cs.putL (L [(.p 81 0)]) 0 (Cs.mk 1)))
noncomputable def wg19 : GB := (.rw (.c2 (.mk (.mk (n8 1) (n8 0) (n8 0) (n8 0) (n8 1) (n8 0) (n8 12) (n8 0) (n8 2) (n8 0) (n8 0) (n8 0) (n8 2) (n8 0) (n8 0) (n8 0)) (.mk (n8 0) (n8 0) (n8 40) (n8 0) (n8 1) (n8 0) (n8 0) (n8 0) (n8 14) (n8 0) (n8 0) (n8 0) (n8 119) (n8 108) (n8 95) (n8 99)) (.mk (n8 111) (n8 109) (n8 112) (n8 111) (n8 115) (n8 105) (n8 116) (n8 111) (n8 114) (n8 0) (n8 0) (n8 0) (n8 1) (n8 0) (n8 0) (n8 0)) (.mk (n8 3) (n8 0) (n8 0) (n8 0) (n8 2) (n8 0) (n8 0) (n8 0) (n8 0) (n8 0) (n8 32) (n8 0) (n8 2) (n8 0) (n8 0) (n8 0)) (.mk (n8 7) (n8 0) (n8 0) (n8 0) (n8 119) (n8 108) (n8 95) (n8 115) (n8 104) (n8 109) (n8 0) (n8 0) (n8 1) (n8 0) (n8 0) (n8 0)) (.mk (n8 4) (n8 0) (n8 0) (n8 0) (n8 2) (n8 0) (n8 0) (n8 0) (n8 0) (n8 0) (n8 44) (n8 0) (n8 3) (n8 0) (n8 0) (n8 0)) (.mk (n8 17) (n8 0) (n8 0) (n8 0) (n8 119) (n8 108) (n8 95) (n8 115) (n8 117) (n8 98) (n8 99) (n8 111) (n8 109) (n8 112) (n8 111) (n8 115)) (.mk (n8 105) (n8 116) (n8 111) (n8 114) (n8 0) (n8 0) (n8 0) (n8 0) (n8 1) (n8 0) (n8 0) (n8 0) (n8 5) (n8 0) (n8 0) (n8 0)) (.mk (n8 2) (n8 0) (n8 0) (n8 0) (n8 0) (n8 0) (n8 32) (n8 0) (n8 4) (n8 0) (n8 0) (n8 0) (n8 8) (n8 0) (n8 0) (n8 0)) (.mk (n8 119) (n8 108) (n8 95) (n8 115) (n8 101) (n8 97) (n8 116) (n8 0) (n8 1) (n8 0) (n8 0) (n8 0) (n8 6) (n8 0) (n8 0) (n8 0)) (.mk (n8 2) (n8 0) (n8 0) (n8 0) (n8 0) (n8 0) (n8 36) (n8 0) (n8 5) (n8 0) (n8 0) (n8 0) (n8 12) (n8 0) (n8 0) (n8 0)) (.mk (n8 120) (n8 100) (n8 103) (n8 95) (n8 119) (n8 109) (n8 95) (n8 98) (n8 97) (n8 115) (n8 101) (n8 0) (n8 1) (n8 0) (n8 0) (n8 0)) (.mk (n8 7) (n8 0) (n8 0) (n8 0) (n8 4) (n8 0) (n8 0) (n8 0) (n8 0) (n8 0) (n8 20) (n8 0) (n8 8) (n8 0) (n8 0) (n8 0)) (.mk (n8 1) (n8 0) (n8 0) (n8 0) (n8 0) (n8 16) (n8 0) (n8 0) .u .u .u .u .u .u .u .u) (F.all .u) (F.all .u))))
noncomputable def wg20 : GB := (.rw (Cs.putL (L [(.m 47), (.m 48)]) 0 (Cs.mk 2)))
noncomputable def wg21 : GB := (.mp (L [(n64 1), (.agg (L [(n64 1), (n64 1)]))]))
noncomputable def wg22 : GB := (.rw (Cs.putL (L [.ns, .ni]) 0 (Cs.mk 2)))
noncomputable def wg23 : GB := (.rw (Cs.putL (L [(n64 16384), .ns, (.b false)]) 0 (Cs.mk 3)))
noncomputable def wg24 : GB := (.mp (L [(n64 1008), (.agg (L [(n64 1), (n64 4096)]))]))
noncomputable def wg25 : GB := (.rw (Cs.putL (L [(.m 2206), (.m 48)]) 0 (Cs.mk 2)))
noncomputable def wg26 : GB := (.mp (L [(n64 1), (.agg (L [(n64 1), (n64 1)])), (n64 2), (.agg (L [(n64 2), (n64 1)])), (n64 3), (.agg (L [(n64 4), (n64 1)])), (n64 4), (.agg (L [(n64 5), (n64 1)])), (n64 5), (.agg (L [(n64 10), (n64 1)])), (n64 6), (.agg (L [(n64 12), (n64 1)])), (n64 7), (.agg (L [(n64 15), (n64 1)])), (n64 8), (.agg (L [(n64 6), (n64 1)]))]))
noncomputable def wg27 : GB := (.rw (Cs.putL (L [(.s 277 196 1 0 0 true), .ni]) 0 (Cs.mk 2)))
noncomputable def wg28 : GB := (.rw (Cs.putL (L [(n64 16384), (.s 1859 0 1 200 200 false), (.b false)]) 0 (Cs.mk 3)))
noncomputable def wg29 : GB := (.rw (.c2 (.mk (.mk (n8 2) (n8 0) (n8 0) (n8 0) (n8 0) (n8 0) (n8 36) (n8 0) (n8 1) (n8 0) (n8 0) (n8 0) (n8 14) (n8 0) (n8 0) (n8 0)) (.mk (n8 119) (n8 108) (n8 95) (n8 99) (n8 111) (n8 109) (n8 112) (n8 111) (n8 115) (n8 105) (n8 116) (n8 111) (n8 114) (n8 0) (n8 0) (n8 0)) (.mk (n8 4) (n8 0) (n8 0) (n8 0) (n8 2) (n8 0) (n8 0) (n8 0) (n8 0) (n8 0) (n8 28) (n8 0) (n8 2) (n8 0) (n8 0) (n8 0)) (.mk (n8 7) (n8 0) (n8 0) (n8 0) (n8 119) (n8 108) (n8 95) (n8 115) (n8 104) (n8 109) (n8 0) (n8 0) (n8 1) (n8 0) (n8 0) (n8 0)) (.mk (n8 2) (n8 0) (n8 0) (n8 0) (n8 0) (n8 0) (n8 40) (n8 0) (n8 3) (n8 0) (n8 0) (n8 0) (n8 17) (n8 0) (n8 0) (n8 0)) (.mk (n8 119) (n8 108) (n8 95) (n8 115) (n8 117) (n8 98) (n8 99) (n8 111) (n8 109) (n8 112) (n8 111) (n8 115) (n8 105) (n8 116) (n8 111) (n8 114)) (.mk (n8 0) (n8 0) (n8 0) (n8 0) (n8 1) (n8 0) (n8 0) (n8 0) (n8 2) (n8 0) (n8 0) (n8 0) (n8 0) (n8 0) (n8 28) (n8 0)) (.mk (n8 4) (n8 0) (n8 0) (n8 0) (n8 8) (n8 0) (n8 0) (n8 0) (n8 119) (n8 108) (n8 95) (n8 115) (n8 101) (n8 97) (n8 116) (n8 0)) (.mk (n8 5) (n8 0) (n8 0) (n8 0) (n8 2) (n8 0) (n8 0) (n8 0) (n8 0) (n8 0) (n8 32) (n8 0) (n8 5) (n8 0) (n8 0) (n8 0)) (.mk (n8 12) (n8 0) (n8 0) (n8 0) (n8 120) (n8 100) (n8 103) (n8 95) (n8 119) (n8 109) (n8 95) (n8 98) (n8 97) (n8 115) (n8 101) (n8 0)) (.mk (n8 1) (n8 0) (n8 0) (n8 0) (n8 4) (n8 0) (n8 0) (n8 0) (n8 0) (n8 0) (n8 12) (n8 0) (n8 0) (n8 0) (n8 0) (n8 0)) (.mk (n8 4) (n8 0) (n8 0) (n8 0) (n8 0) (n8 0) (n8 12) (n8 0) (n8 1) (n8 0) (n8 0) (n8 0) (n8 6) (n8 0) (n8 0) (n8 0)) (.mk (n8 0) (n8 0) (n8 12) (n8 0) (n8 3) (n8 0) (n8 0) (n8 0) .u .u .u .u .u .u .u .u) (F.all .u) (F.all .u) (F.all .u))))
/-- (*tableau/server.Server).feed -/
noncomputable def we1a : AV := (L [(.p 54 0), (n64 1), (.s 276 0 1 216 216 false)])
noncomputable def we1u : BL := [(1, wg5), (2, wg6), (3, wg7), (19, wg8), (38, (.mp (L [(n64 1), (.p 78 0)]))), (39, (.mp .nil)), (40, wg9), (45, wg10), (47, (.mp .nil)), (53, wg11), (54, wg12), (74, wg13), (75, wg14), (76, wg15), (78, wg16), (81, wg17), (83, wg18), (276, wg19)]
noncomputable def we1c : BL := [(43, (.mp .nil)), (49, wg20), (66, (.mp .nil)), (73, wg21), (79, wg22), (80, wg23)]
noncomputable def we1l : BL := [(43, wg24), (49, wg25), (66, (.mp (L [(n64 8), (n64 1)]))), (73, wg26), (79, wg27), (80, wg28), (277, wg19), (1859, wg29), (2206, (.mp .nil))]
noncomputable def we1v : AV := (.tup .nil)
noncomputable def we1 : Ent := .mk we1a 277 we1u we1c we1v 2210 we1l
noncomputable def wg30 : GB := (.rw (Cs.putL (L [(.m 41)]) 0 (Cs.mk 1)))
noncomputable def wg31 : GB := (.rw (Cs.putL (L [(n64 0), (n64 0), (n64 0), (n64 0)]) 0 (Cs.mk 4)))
noncomputable def wg32 : GB := (.rw (Cs.putL (L [(n64 16384), (.s 1859 0 1 0 0 false), (.b false)]) 0 (Cs.mk 3)))
noncomputable def wg33 : GB := (.rw (Cs.putL (L [(.p 79 0), (.p 80 0), (.s 2212 0 1 200 200 false), (.b true)]) 0 (Cs.mk 4)))
noncomputable def wg34 : GB := (.rw (.c3 (F.all (F.all (F.all (n8 0))))))
/-- tableau/tableautop.bound -/
noncomputable def we2a : AV := (L [(n64 1)])
noncomputable def we2u : BL := [(1, wg5), (2, wg6), (3, wg7), (19, wg8)]
noncomputable def we2c : BL := []
noncomputable def we2l : BL := [(34, wg4), (35, wg0), (38, (.mp (L [(n64 1), (.p 78 0)]))), (39, (.mp .nil)), (40, wg9), (41, (.mp .nil)), (42, wg30), (43, wg24), (44, (.mp .nil)), (45, wg10), (46, (.mp .nil)), (48, (.mp .nil)), (49, wg25), (50, (.rw (Cs.putL (L [.ns]) 0 (Cs.mk 1)))), (51, (.mp .nil)), (52, wg31), (53, wg11), (54, wg12), (66, (.mp (L [(n64 8), (n64 1)]))), (67, (.mp .nil)), (73, wg26), (74, wg13), (75, wg14), (76, wg15), (77, (.rw (Cs.putL (L [.np]) 0 (Cs.mk 1)))), (78, wg16), (79, wg27), (80, wg32), (81, wg33), (83, wg18), (86, wg34), (277, wg19), (1859, wg29), (2206, (.mp .nil)), (2212, wg29)]
noncomputable def we2v : AV := (.p 54 0)
noncomputable def we2 : Ent := .mk we2a 34 we2u we2c we2v 2213 we2l
noncomputable def wg35 : GB := (.rw (.c2 (.mk (.mk (n8 3) (n8 0) (n8 0) (n8 0) (n8 0) (n8 0) (n8 12) (n8 0) (n8 10) (n8 0) (n8 0) (n8 0) (n8 7) (n8 0) (n8 0) (n8 0)) (.mk (n8 1) (n8 0) (n8 16) (n8 0) (n8 11) (n8 0) (n8 0) (n8 0) (n8 10) (n8 0) (n8 0) (n8 0) (n8 11) (n8 0) (n8 0) (n8 0)) (.mk (n8 1) (n8 0) (n8 12) (n8 0) (n8 12) (n8 0) (n8 0) (n8 0) (n8 10) (n8 0) (n8 0) (n8 0) (n8 5) (n8 0) (n8 8) (n8 0)) (F.all .u) (F.all .u) (F.all .u) (F.all .u) (F.all .u) (F.all .u) (F.all .u) (F.all .u) (F.all .u) (F.all .u) (F.all .u) (F.all .u) (F.all .u))))
noncomputable def wg36 : GB := (.rw (Cs.putL (L [(.m 3335), (.m 48)]) 0 (Cs.mk 2)))
noncomputable def wg37 : GB := (.rw (.c1 (.mk (n64 1) (.m 38) (.p 35 0) (.p 40 0) (.p 42 0) (.p 45 0) (.m 46) (n64 0) (.p 49 0) (.p 50 0) (.m 51) (n64 0) (.p 52 0) (n64 1) (n64 0) (n64 0))))
noncomputable def wg38 : GB := (.mp (L [(n64 8), (n64 1), (n64 11), (n64 1010), (n64 12), (n64 1010)]))
noncomputable def wg39 : GB := (.mp (L [(n64 1), (.agg (L [(n64 1), (n64 1)])), (n64 2), (.agg (L [(n64 2), (n64 1)])), (n64 3), (.agg (L [(n64 4), (n64 1)])), (n64 4), (.agg (L [(n64 5), (n64 1)])), (n64 5), (.agg (L [(n64 10), (n64 1)])), (n64 6), (.agg (L [(n64 12), (n64 1)])), (n64 7), (.agg (L [(n64 15), (n64 1)])), (n64 8), (.agg (L [(n64 6), (n64 1)])), (n64 10), (.agg (L [(n64 8), (n64 1)])), (n64 11), (.agg (L [(n64 16), (n64 1)])), (n64 12), (.agg (L [(n64 17), (n64 1)]))]))
noncomputable def wg40 : GB := (.rw (Cs.putL (L [(.s 2273 40 1 0 0 true), .ni]) 0 (Cs.mk 2)))
noncomputable def wg41 : GB := (.rw (Cs.putL (L [(n64 16384), (.s 3435 0 1 28 28 false), (.b false)]) 0 (Cs.mk 3)))
noncomputable def wg42 : GB := (.rw (.c2 (.mk (.mk (n64 1010) (n64 0) (.b false) (.b false) (n64 0) .ns .ns (.b false) (.b false) .ns (.b false) .ns .ns (.b false) (n64 0) .ns) (.mk .ns (.b false) (.b false) .ns (.b false) .ns .ns (.b false) (n64 0) .ns .ns (.b false) (.b true) .ns (.b false) (.s 3277 0 1 1 1 false)) (.mk .ns .u .u .u .u .u .u .u .u .u .u .u .u .u .u .u) (F.all .u) (F.all .u) (F.all .u) (F.all .u) (F.all .u) (F.all .u) (F.all .u) (F.all .u) (F.all .u) (F.all .u) (F.all .u) (F.all .u) (F.all .u))))
noncomputable def wg43 : GB := (.rw (Cs.putL (L [(n64 2), (.s 3298 0 1 1 1 false)]) 0 (Cs.mk 2)))
noncomputable def wg44 : GB := (.rw (Cs.putL (L [(n64 0)]) 0 (Cs.mk 1)))
noncomputable def wg45 : GB := (.rw (Cs.putL (L [(n64 1)]) 0 (Cs.mk 1)))
noncomputable def wg46 : GB := (.rw (.c2 (.mk (.mk (n8 12) (n8 0) (n8 0) (n8 0) (n8 0) (n8 0) (n8 16) (n8 0) (n8 0) (n8 0) (n8 0) (n8 0) (n8 0) (n8 0) (n8 0) (n8 0)) (.mk (n8 11) (n8 0) (n8 0) (n8 0) (n8 0) (n8 0) (n8 12) (n8 0) (n8 1) (n8 0) (n8 0) (n8 0) .u .u .u .u) (F.all .u) (F.all .u) (F.all .u) (F.all .u) (F.all .u) (F.all .u) (F.all .u) (F.all .u) (F.all .u) (F.all .u) (F.all .u) (F.all .u) (F.all .u) (F.all .u))))
/-- (*tableau/server.Server).feed -/
noncomputable def we3a : AV := (L [(.p 54 0), (n64 1), (.s 2272 0 1 48 48 false)])
noncomputable def we3u : BL := [(1, wg5), (2, wg6), (3, wg7), (19, wg8), (38, (.mp (L [(n64 1), (.p 78 0)]))), (40, wg9), (42, wg30), (54, wg12), (74, wg13), (78, wg16), (81, wg33), (83, wg18), (2206, (.mp .nil)), (2272, wg35)]
noncomputable def we3c : BL := [(39, (.mp .nil)), (41, (.mp .nil)), (49, wg25), (53, wg11), (66, (.mp (L [(n64 8), (n64 1)]))), (73, wg26), (79, wg27), (80, wg32)]
noncomputable def we3l : BL := [(39, (.mp (L [(n64 1010), (.p 2372 0)]))), (41, (.mp (L [(n64 1010), (.p 2751 0)]))), (49, wg36), (53, wg37), (66, wg38), (73, wg39), (79, wg40), (80, wg41), (2273, wg35), (2372, wg42), (2751, wg43), (3277, wg44), (3298, wg45), (3335, (.mp .nil)), (3435, wg46)]
noncomputable def we3v : AV := (.tup .nil)
noncomputable def we3 : Ent := .mk we3a 2273 we3u we3c we3v 3436 we3l
noncomputable def wg47 : GB := (.rw (.c2 (.mk (.mk (n8 11) (n8 0) (n8 0) (n8 0) (n8 2) (n8 0) (n8 12) (n8 0) (n8 1) (n8 0) (n8 0) (n8 0) (n8 8) (n8 0) (n8 0) (n8 0)) (.mk (n8 0) (n8 0) (n8 32) (n8 0) (n8 13) (n8 0) (n8 0) (n8 0) (n8 0) (n8 0) (n8 0) (n8 0) (n8 2) (n8 0) (n8 0) (n8 0)) (.mk (n8 2) (n8 0) (n8 0) (n8 0) (n8 8) (n8 0) (n8 0) (n8 0) (n8 0) (n8 0) (n8 0) (n8 0) (n8 10) (n8 0) (n8 0) (n8 0)) (.mk (n8 1) (n8 0) (n8 20) (n8 0) (n8 13) (n8 0) (n8 0) (n8 0) (n8 0) (n8 0) (n8 0) (n8 0) (n8 0) (n8 0) (n8 0) (n8 0)) (.mk (n8 10) (n8 0) (n8 0) (n8 0) (n8 5) (n8 0) (n8 8) (n8 0) .u .u .u .u .u .u .u .u) (F.all .u) (F.all .u) (F.all .u) (F.all .u) (F.all .u) (F.all .u) (F.all .u) (F.all .u) (F.all .u) (F.all .u) (F.all .u))))
noncomputable def wg48 : GB := (.mp (L [(n64 1), (.agg (L [(n64 1), (n64 0), (n64 2), (n64 2), (n64 8), (n64 0), (.b true)]))]))
noncomputable def wg49 : GB := (.rw (Cs.putL (L [(.m 4343), (.m 48)]) 0 (Cs.mk 2)))
noncomputable def wg50 : GB := (.rw (Cs.putL (L [(.s 4306 0 1 1 1 false)]) 0 (Cs.mk 1)))
noncomputable def wg51 : GB := (.mp (L [(n64 1010), (.agg (L [(n64 1010), (n64 0), (n64 0)]))]))
noncomputable def wg52 : GB := (.rw (.c1 (.mk (n64 1) (.m 38) (.p 35 0) (.p 40 0) (.p 42 0) (.p 45 0) (.m 46) (n64 1) (.p 49 0) (.p 50 0) (.m 51) (n64 1) (.p 52 0) (n64 1) (n64 0) (n64 0))))
noncomputable def wg53 : GB := (.mp (L [(n64 8), (n64 1), (n64 11), (n64 1010), (n64 12), (n64 1010), (n64 13), (n64 1)]))
noncomputable def wg54 : GB := (.mp (L [(n64 1), (.agg (L [(n64 1), (n64 1)])), (n64 2), (.agg (L [(n64 2), (n64 1)])), (n64 3), (.agg (L [(n64 4), (n64 1)])), (n64 4), (.agg (L [(n64 5), (n64 1)])), (n64 5), (.agg (L [(n64 10), (n64 1)])), (n64 6), (.agg (L [(n64 12), (n64 1)])), (n64 7), (.agg (L [(n64 15), (n64 1)])), (n64 8), (.agg (L [(n64 6), (n64 1)])), (n64 10), (.agg (L [(n64 8), (n64 1)])), (n64 11), (.agg (L [(n64 16), (n64 1)])), (n64 12), (.agg (L [(n64 17), (n64 1)])), (n64 13), (.agg (L [(n64 7), (n64 1)]))]))
noncomputable def wg55 : GB := (.rw (Cs.putL (L [(.s 3522 64 1 0 0 true), .ni]) 0 (Cs.mk 2)))
noncomputable def wg56 : GB := (.rw (.c2 (.mk (.mk (n64 1010) (n64 0) (.b false) (.b false) (n64 0) .ns .ns (.b false) (.b false) .ns (.b false) .ns .ns (.b false) (n64 0) .ns) (.mk .ns (.b false) (.b false) .ns (.b false) .ns .ns (.b false) (n64 1) .ns .ns (.b false) (.b true) .ns (.b false) (.s 4301 0 1 1 1 false)) (.mk .ns .u .u .u .u .u .u .u .u .u .u .u .u .u .u .u) (F.all .u) (F.all .u) (F.all .u) (F.all .u) (F.all .u) (F.all .u) (F.all .u) (F.all .u) (F.all .u) (F.all .u) (F.all .u) (F.all .u) (F.all .u))))
noncomputable def wg57 : GB := (.rw (Cs.putL (L [(n64 4), (.s 3617 0 1 0 0 true)]) 0 (Cs.mk 2)))
noncomputable def wg58 : GB := (.rw (Cs.putL (L [(n64 1010)]) 0 (Cs.mk 1)))
/-- (*tableau/server.Server).feed -/
noncomputable def we4a : AV := (L [(.p 54 0), (n64 1), (.s 3521 0 1 72 72 false)])
noncomputable def we4u : BL := [(1, wg5), (3, wg7), (19, wg8), (38, (.mp (L [(n64 1), (.p 78 0)]))), (39, (.mp (L [(n64 1010), (.p 2372 0)]))), (40, wg9), (41, (.mp (L [(n64 1010), (.p 2751 0)]))), (42, wg30), (43, wg24), (45, wg10), (54, wg12), (74, wg13), (78, wg16), (81, wg33), (83, wg18), (3277, wg44), (3298, wg45), (3335, (.mp .nil)), (3521, wg47)]
noncomputable def we4c : BL := [(44, (.mp .nil)), (46, (.mp .nil)), (49, wg36), (50, (.rw (Cs.putL (L [.ns]) 0 (Cs.mk 1)))), (51, (.mp .nil)), (53, wg37), (66, wg38), (73, wg39), (79, wg40), (2372, wg42), (2751, wg43)]
noncomputable def we4l : BL := [(44, wg48), (46, (.mp (L [(n64 1), (n64 1013)]))), (49, wg49), (50, wg50), (51, wg51), (53, wg52), (66, wg53), (73, wg54), (79, wg55), (2372, wg56), (2751, wg57), (3522, wg47), (3617, (.rw (.c1 (F.all .u)))), (4301, wg44), (4306, wg58), (4343, (.mp (L [(n64 1), (.b true)])))]
noncomputable def we4v : AV := (.tup .nil)
noncomputable def we4 : Ent := .mk we4a 3522 we4u we4c we4v 4347 we4l
/-- (*tableau/canvas.Canvas).each -/
noncomputable def we5a : AV := (L [(.p 35 0), (.s 4554 0 4 1 1 true), (.f 132 .nil (L [(.p 4555 0)]))])
noncomputable def we5u : BL := [(34, wg4), (35, wg0), (4554, wg1), (4555, wg2)]
noncomputable def we5c : BL := []
noncomputable def we5l : BL := []
noncomputable def we5v : AV := (.tup .nil)
noncomputable def we5 : Ent := .lo we5a 4556 we5u we5c we5v we5l
noncomputable def wg59 : GB := (.rw (Cs.putL (L [(n32 4278255360), (n32 4278255360), (n32 4278255360), (n32 4278255360)]) 0 (Cs.mk 4)))
noncomputable def wg60 : GB := (.rw (Cs.putL (L [(n64 2)]) 0 (Cs.mk 1)))
noncomputable def wg61 : GB := (.rw (Cs.putL (L [(.s 4551 0 1 4 4 false)]) 0 (Cs.mk 1)))
noncomputable def wg62 : GB := (.rw (Cs.putL (L [(n64 0), (n64 0), (n64 2), (n64 2)]) 0 (Cs.mk 4)))
noncomputable def wg63 : GB := (.rw (.c3 (.mk (.mk (.mk (n32 4278255360) (n32 4278255360) (n32 4279246896) (n32 4279246896) (n32 4279246896) (n32 4279246896) (n32 4279246896) (n32 4279246896) (n32 4279246896) (n32 4279246896) (n32 4279246896) (n32 4279246896) (n32 4279246896) (n32 4279246896) (n32 4279246896) (n32 4279246896)) (.mk (n32 4279246896) (n32 4279246896) (n32 4279246896) (n32 4279246896) (n32 4279246896) (n32 4279246896) (n32 4279246896) (n32 4279246896) (n32 4278255360) (n32 4278255360) (n32 4279246896) (n32 4279246896) (n32 4279246896) (n32 4279246896) (n32 4279246896) (n32 4279246896)) (F.all (n32 4279246896)) (F.all (n32 4279246896)) (F.all (n32 4279246896)) (F.all (n32 4279246896)) (F.all (n32 4279246896)) (F.all (n32 4279246896)) (F.all (n32 4279246896)) (F.all (n32 4279246896)) (F.all (n32 4279246896)) (F.all (n32 4279246896)) (F.all (n32 4279246896)) (F.all (n32 4279246896)) (F.all (n32 4279246896)) (F.all (n32 4279246896))) (.mk (F.all (n32 4279246896)) (F.all (n32 4279246896)) (F.all (n32 4279246896)) (F.all (n32 4279246896)) (F.all (n32 4279246896)) (F.all (n32 4279246896)) (F.all (n32 4279246896)) (F.all (n32 4279246896)) (F.all .u) (F.all .u) (F.all .u) (F.all .u) (F.all .u) (F.all .u) (F.all .u) (F.all .u)) (F.all (F.all .u)) (F.all (F.all .u)) (F.all (F.all .u)) (F.all (F.all .u)) (F.all (F.all .u)) (F.all (F.all .u)) (F.all (F.all .u)) (F.all (F.all .u)) (F.all (F.all .u)) (F.all (F.all .u)) (F.all (F.all .u)) (F.all (F.all .u)) (F.all (F.all .u)) (F.all (F.all .u)))))
/-- (*tableau/canvas.Canvas).each -/
noncomputable def we6a : AV := (L [(.p 35 0), (.s 4554 0 4 1 1 true), (.f 228 .nil (L [(.p 4561 0), (.p 4562 0), (.p 4560 0), (.p 4564 0), (.p 4563 0)]))])
noncomputable def we6u : BL := [(35, wg0), (4551, wg59), (4554, wg1), (4560, wg44), (4561, wg44), (4562, wg60), (4563, wg61), (4564, wg62)]
noncomputable def we6c : BL := [(34, wg4)]
noncomputable def we6l : BL := [(34, wg63)]
noncomputable def we6v : AV := (.tup .nil)
noncomputable def we6 : Ent := .lo we6a 4565 we6u we6c we6v we6l
end Go.Proofs.YtenpbpgoglepfaaGreatDoor
