/- The evaluator is sound: regions that draw their order: the check, and what it gives. No condition. -/
import Derived.Test.YtenpbpgoglepfaaGreatDoorMm3
import Derived.Maps.RangeRun
namespace Go.Proofs.YtenpbpgoglepfaaGreatDoor
open Go.RowKit
set_option linter.unusedVariables false

section
variable {P : Program} {NG : Env} {B0 N : Nat} {ro : Option Nat} {mt : Mt} {ops : Array Oper} {L : List DI} {c : CallE} {Fm : Nat → Fr} {S : Nat → St}
theorem dr_any (hk : Kn P mt) (h : DrOk P NG N mt ops L) (ht : Tr c L L.length Fm S) (hc : CAll P NG B0 c) {df : List Deferred} {r0 : Rho} {w0 : World} (hb0 : Base NG r0) {Q : Exit → Act → World → Prop}
    (hend : ∀ a w r, Sim B0 r (S L.length) w → Stp r0 (S 0) w0 r (S L.length) w → FrR N r (Fm L.length) a → a.defers = df → Q .normal a w) :
    ∀ (fuel : Nat) (listed : Array Bool) (a : Act) (w : World) (q : Nat) (r : Rho), listed.toList.count false ≤ fuel → DrI B0 N L Fm S r0 w0 df listed a w q r → wpAnyIn (Wd ro) 0 P .any ops Q fuel listed a w := by
  have hall : ∀ (listed : Array Bool), listed.size = L.length → Region.ready .any ops listed = [] → ∀ i, i < L.length → listed.getD i false = true := by
    intro listed hsz hr i
    induction i using Nat.strongRecOn with
    | ind i ih =>
      intro hi
      have hio : i < ops.size := by rw [h.len]; exact hi
      by_cases hl : listed.getD i true = false
      · have : i ∈ Region.ready .any ops listed := mem_ready.2 ⟨hl, ops[i], Array.getElem?_eq_getElem hio, fun e he hb => by
          have hx : L[i]? = some L[i] := List.getElem?_eq_getElem hi
          have := h.low i _ hx _ (h.edge i _ _ (Array.getElem?_eq_getElem hio) hx e he hb)
          exact ih e.on this (by omega)⟩
        rw [hr] at this
        cases this
      · simp only [Array.getD_eq_getD_getElem?, Array.getElem?_eq_getElem (show i < listed.size by omega), Option.getD_some] at hl ⊢
        simpa using hl
  have hfin : ∀ (listed : Array Bool) (a : Act) (w : World) (q : Nat) (r : Rho), Region.ready .any ops listed = [] → DrI B0 N L Fm S r0 w0 df listed a w q r → Q .normal a w := by
    intro listed a w q r hr hI
    have ha := hall listed hI.size hr
    have e : S q = S L.length := ht.same hI.hq (Nat.le_refl _) fun j x hx hkx => by
      have hj := (List.getElem?_eq_some_iff.1 hx).1
      exact ⟨fun _ => hj, fun _ => (hI.acts j x hx hkx).1 (ha j hj)⟩
    refine hend a w r (by rw [← e]; exact hI.sim) (by rw [← e]; exact hI.stp) ⟨hI.tsz, fun p l v hv => ?_⟩ hI.dfr
    by_cases hany : ∃ (j : Nat) (y : DI), L[j]? = some y ∧ y.ds = .to p l
    · obtain ⟨j, y, hy, hyd⟩ := hany
      have hj := (List.getElem?_eq_some_iff.1 hy).1
      rw [ht.get_near h hy hyd hj (Nat.le_refl _)]
      exact hI.near j y p l v hy hyd (ha j hj) hv
    · rw [ht.get_far h (Nat.zero_le _) (Nat.le_refl _) fun j y _ _ hy hyd => hany ⟨j, y, hy, hyd⟩]
      exact hI.far p l v (fun j y hy hyd => absurd ⟨j, y, hy, hyd⟩ hany) hv
  intro fuel
  induction fuel with
  | zero =>
    intro listed a w q r hc' hI
    have hr : Region.ready .any ops listed = [] := by
      apply List.eq_nil_iff_forall_not_mem.2
      intro j hj
      obtain ⟨h1, o, h2, _⟩ := mem_ready.1 hj
      have hlt : j < listed.size := by rw [hI.size, ← h.len]; exact (Array.getElem?_eq_some_iff.1 h2).1
      have hm : false ∈ listed.toList := by
        rw [Array.getD_eq_getD_getElem?, Array.getElem?_eq_getElem hlt, Option.getD_some] at h1
        rw [← h1]
        simp
      have := List.count_pos_iff.2 hm
      omega
    exact ⟨hr, hfin listed a w q r hr hI⟩
  | succ fuel ih =>
    intro listed a w q r hc' hI
    refine ⟨fun hr => hfin listed a w q r hr hI, fun i hi => ?_⟩
    refine dr_step hk h ht hc hb0 hI hi fun a' w' q' r' hI' => ih _ a' w' q' r' ?_ hI'
    obtain ⟨h1, o, h2, h3⟩ := mem_ready.1 hi
    have hsz : i < listed.size := by rw [hI.size, ← h.len]; exact (Array.getElem?_eq_some_iff.1 h2).1
    have hlt : i < listed.toList.length := by simpa using hsz
    rw [Array.toList_setIfInBounds, List.count_set hlt]
    have hfi : listed.toList[i] = false := by
      rw [Array.getD_eq_getD_getElem?, Array.getElem?_eq_getElem hsz, Option.getD_some] at h1
      simpa using h1
    have hm : false ∈ listed.toList := by rw [← hfi]; exact List.getElem_mem _
    have := List.count_pos_iff.2 hm
    rw [hfi]
    simp only [beq_self_eq_true, if_true, show (true == false) = false from rfl, Bool.false_eq_true, if_false]
    omega
theorem dr_wp (hf : P.follows .mixedOrders = true) (hk : Kn P mt) (h : DrOk P NG N mt ops L) (id : Nat) : CSnd P NG B0 N (CAll P NG B0) ro (.region id ops true) (.drw L) := fun c hc fr s r w a lo hb hs hfr hdf Q hp => by
  have hL : ∀ q ∈ L, CtI c q.is := fun q hq => by
    obtain ⟨j, hj, rfl⟩ := List.mem_iff_getElem.1 hq
    have hjo : j < ops.size := by rw [h.len]; exact hj
    have ho : ops[j]? = some ops[j] := Array.getElem?_eq_getElem hjo
    obtain ⟨hok, _⟩ := h.snd j _ _ ho (List.getElem?_eq_getElem hj)
    intro fr s
    rcases snd_g (P := P) (NG := NG) (B0 := B0) (N := N) (C := CAll P NG B0) (ro := ro) (fun o i h => snd_cj hk h) ho hok hc fr s with h | ⟨f, t, h, _⟩
    · exact .inl h
    · exact .inr ⟨f, t, h⟩
  have e : evC (.drw L) c fr s = evDr L 0 [] [] c fr s .nrm := rfl
  rw [e] at hp
  rcases tr_of hL L 0 [] [] (fun _ => fr) (fun _ => s) rfl (by simp) ⟨fun j q hj => by omega, fun j q e p hj => by omega, fun j q e p hj => by omega⟩ (fun i q hi => by omega) (fun e he => by cases he) (fun e q he => by omega) with hbad | ⟨Fm, S, hF0, hS0, ht, hrun⟩
  · rw [hbad] at hp; exact hp.elim
  · rw [hrun] at hp
    refine wpIn_region_any hf ?_
    have hF0 : Fm 0 = fr := hF0
    have hS0 : S 0 = s := hS0
    refine dr_any hk h ht hc hb (r0 := r) (w0 := w) (df := a.defers) (fun a' w' r' h1 h2 h3 h4 => by
      rw [hS0] at h2
      exact hp a' w' r' h1 h2 h3 (by rw [h4]; exact hdf.stp h2)) _ _ _ _ 0 r ?_ ?_
    · simp
    · have hrep : ∀ j, ¬ (Array.replicate ops.size false).getD j false = true := fun j => by
        rw [Array.getD_eq_getD_getElem?, Array.getElem?_replicate]
        split <;> simp
      refine ⟨by rw [Array.size_replicate]; exact h.len, Nat.zero_le _, fun j x hx hkx => ?_, ?_, ?_, fun j x hx hl => absurd hl (hrep j), hfr.size, rfl, fun p l v hno hv => ?_, fun j x p l v hx hxd hl => absurd hl (hrep j)⟩
      · exact ⟨fun hl => absurd hl (hrep j), fun hl => by omega⟩
      · rw [hS0]; exact hs.drew 1
      · rw [hS0]; exact Stp.drew 1
      · rw [hF0]; exact hfr.get p l v hv
end
/-- The number of the slot of a place, of an operand. -/
noncomputable def D.sl : D → Option Nat
  | .no => none
  | .to h l => some (slotN h l)
noncomputable def X.sl : X → Option Nat
  | .t h l => some (slotN h l)
  | .k _ => none
noncomputable def eqO : Option Nat → Option Nat → Bool
  | some a, some b => Nat.beq a b
  | _, _ => false
def kdN : Kd → Nat | .pure => 0 | .read => 1 | .rdx => 2 | .act => 3 | .flo => 4
def gdB : I → D → Bool
  | .gd _ _ _ i d, e => gdB i e
  | _, _ => true
noncomputable def eqD : D → D → Bool
  | .no, .no => true
  | .to h l, .to h' l' => Nat.beq (slotN h l) (slotN h' l')
  | _, _ => false
noncomputable def gdC : I → Bool
  | .gd _ _ _ i d => eqD (dstI i) d && gdC i
  | _ => true
/-- What one operation is asked, by itself. -/
noncomputable def ckD1 (P : Program) (NG N : Nat) (mt : Mt) (ops : Array Oper) (L : List DI) (j : Nat) (o : Oper) (q : DI) : Bool :=
  okG (ckJ P NG N mt) N ops o q.is && (dB o.dst q.ds && (eqD (dstI q.is) q.ds && (gdC q.is && ((Nat.beq (kdN q.kd) 3 || readI q.is) && ((!Nat.beq (kdN q.kd) 0 || pureI q.is) &&
  (Nat.blt q.ms (Nat.pow 2 j) && (o.after.toList.all (fun e => !Region.binds .any e || bitN q.ms e.on) &&
  (List.range j).all fun e => !bitN q.ms e || o.after.toList.any fun x => Region.binds .any x && (Nat.beq x.on e || (match L[x.on]? with | some p => bitN p.ms e | none => false)))))))))
/-- What two operations are asked. -/
noncomputable def ckD2 (i j : Nat) (p q : DI) : Bool :=
  (Nat.beq i j || !eqO p.ds.sl q.ds.sl) && ((bitN q.ms i || (bitN p.ms j || (rdsI q.is).all (fun x => !eqO x.sl p.ds.sl))) &&
  (!Nat.blt i j || (bitN q.ms i || ((!Nat.beq (kdN p.kd) 3 || (!Nat.beq (kdN q.kd) 3 && !Nat.beq (kdN q.kd) 1)) && (!Nat.beq (kdN p.kd) 1 || !Nat.beq (kdN q.kd) 3)))))
noncomputable def allI (f : Nat → DI → Bool) : Nat → List DI → Bool
  | _, [] => true
  | k, q :: l => f k q && allI f (k + 1) l
noncomputable def allO (f : Nat → Oper → DI → Bool) : Nat → List Oper → List DI → Bool
  | _, [], [] => true
  | k, o :: os, q :: l => f k o q && allO f (k + 1) os l
  | _, _, _ => false
noncomputable def ckDr (P : Program) (NG : Nat) (mt : Mt) (N : Nat) (ops : Array Oper) (L : List DI) : Bool :=
  allI (fun _ q => !Nat.beq (kdN q.kd) 4) 0 L && (allO (ckD1 P NG N mt ops L) 0 ops.toList L && allI (fun i p => allI (fun j q => ckD2 i j p q) 0 L) 0 L)
theorem allI_spec {f : Nat → DI → Bool} : ∀ {l : List DI} {k : Nat}, allI f k l = true → ∀ j q, l[j]? = some q → f (k + j) q = true
  | [], _, _, _, _, h => by simp at h
  | x :: l, k, h, j, q, hq => by
    simp only [allI, Bool.and_eq_true] at h
    rcases j with _ | j
    · simp only [List.getElem?_cons_zero, Option.some.injEq] at hq
      subst hq
      exact h.1
    · have := allI_spec h.2 j q (by simpa using hq)
      rwa [show k + (j + 1) = k + 1 + j by omega]
theorem allO_spec {f : Nat → Oper → DI → Bool} : ∀ {os : List Oper} {l : List DI} {k : Nat}, allO f k os l = true → os.length = l.length ∧ ∀ j o q, os[j]? = some o → l[j]? = some q → f (k + j) o q = true
  | [], [], _, _ => ⟨rfl, fun _ _ _ h => by simp at h⟩
  | x :: os, y :: l, k, h => by
    simp only [allO, Bool.and_eq_true] at h
    obtain ⟨h1, h2⟩ := allO_spec h.2
    refine ⟨by simp [h1], fun j o q ho hq => ?_⟩
    rcases j with _ | j
    · simp only [List.getElem?_cons_zero, Option.some.injEq] at ho hq
      subst ho; subst hq
      exact h.1
    · have := h2 j o q (by simpa using ho) (by simpa using hq)
      rwa [show k + (j + 1) = k + 1 + j by omega]
  | [], _ :: _, _, h => by cases h
  | _ :: _, [], _, h => by cases h
theorem eqD_eq {d e : D} (h : eqD d e = true) : d = e := by
  cases d <;> cases e <;> simp only [eqD, Bool.false_eq_true] at h
  · rfl
  · obtain ⟨rfl, rfl⟩ := slotN_inj (Nat.eq_of_beq_eq_true h)
    rfl
theorem gdC_spec : ∀ {i : I}, gdC i = true → gdI i := by
  intro i
  induction i with
  | gd h l b i d ih =>
    intro h
    simp only [gdC, Bool.and_eq_true] at h
    exact ⟨eqD_eq h.1, ih h.2⟩
  | _ => intro _; trivial
theorem bitN_lt {m j e : Nat} (hm : m < 2 ^ j) (h : bitN m e = true) : e < j := by
  rcases Nat.lt_or_ge e j with h1 | h1
  · exact h1
  · exfalso
    have : m / 2 ^ e = 0 := Nat.div_eq_of_lt (Nat.lt_of_lt_of_le hm (Nat.pow_le_pow_right (by omega) h1))
    unfold bitN at h
    have h2 := Nat.eq_of_beq_eq_true h
    have h3 : m / 2 ^ e % 2 = 1 := h2
    rw [this] at h3
    omega
theorem kd_eq {k : Kd} : (Nat.beq (kdN k) 3 = true ↔ k = .act) ∧ (Nat.beq (kdN k) 1 = true ↔ k = .read) ∧ (Nat.beq (kdN k) 0 = true ↔ k = .pure) := by cases k <;> refine ⟨?_, ?_, ?_⟩ <;> constructor <;> intro h <;> first | rfl | cases h
theorem eqO_sl {d : D} {p q : H} : eqO (some (slotN p q)) d.sl = true ↔ d = .to p q := by
  cases d with
  | no => constructor <;> intro h <;> cases h
  | to x y =>
    constructor
    · intro h
      obtain ⟨rfl, rfl⟩ := slotN_inj (Nat.eq_of_beq_eq_true h)
      rfl
    · intro h; cases h; exact Nat.beq_refl _
theorem drOk_of {P : Program} {NG : Env} {N : Nat} {mt : Mt} {ops : Array Oper} {L : List DI} (h : ckDr P NG mt N ops L = true) : DrOk P NG N mt ops L := by
  simp only [ckDr, Bool.and_eq_true] at h
  obtain ⟨h0, h1, h2⟩ := h
  obtain ⟨hlen, h1⟩ := allO_spec h1
  have h1 : ∀ j o q, ops[j]? = some o → L[j]? = some q → ckD1 P NG N mt ops L j o q = true := fun j o q ho hq => by
    have := h1 j o q (by simpa using ho) hq
    rwa [Nat.zero_add] at this
  have h2 : ∀ i j p q, L[i]? = some p → L[j]? = some q → ckD2 i j p q = true := fun i j p q hp hq => by
    have h3 := allI_spec h2 i p hp
    have h4 := allI_spec h3 j q hq
    rwa [Nat.zero_add, Nat.zero_add] at h4
  have hsz : ops.size = L.length := by simpa using hlen
  have ho : ∀ {j : Nat} {q : DI}, L[j]? = some q → ∃ o, ops[j]? = some o := fun {j q} hq => ⟨_, Array.getElem?_eq_getElem (by rw [hsz]; exact (List.getElem?_eq_some_iff.1 hq).1)⟩
  have hlow : ∀ (j : Nat) (q : DI), L[j]? = some q → ∀ e, bitN q.ms e = true → e < j := fun j q hq e he => by
    obtain ⟨o, ho⟩ := ho hq
    have := h1 j o q ho hq
    simp only [ckD1, Bool.and_eq_true] at this
    have h3 := this.2.2.2.2.2.2.1
    rw [blt_eq, decide_eq_true_iff] at h3
    exact bitN_lt h3 he
  refine ⟨hsz, fun j q hq e => ?_, fun j o q ho hq => ?_, hlow, fun j o q ho hq e he hb => ?_, fun j o q ho hq e he => ?_, fun i j p q hp hq hij hkp hkq => ?_, fun i j p q hp hq hij hkp hkq => ?_, fun i j p q hp hq hij hkp hkq => ?_, fun i j p q hp hq hij x y hpd hqd => ?_, fun i j p q hp hq x y hm hpd => ?_⟩
  · have := allI_spec h0 j q hq
    rw [e] at this
    cases this
  · have := h1 j o q ho hq
    simp only [ckD1, Bool.and_eq_true, Bool.or_eq_true, Bool.not_eq_true'] at this
    obtain ⟨a1, a2, a3, a4, a5, a6, _⟩ := this
    refine ⟨a1, a2, eqD_eq a3, gdC_spec a4, fun hk => ?_, fun hk => ?_⟩
    · rcases a6 with a6 | a6
      · rw [kd_eq.2.2.2 hk] at a6; cases a6
      · exact a6
    · rcases a5 with a5 | a5
      · exact absurd (kd_eq.1.1 a5) hk
      · exact a5
  · have := h1 j o q ho hq
    simp only [ckD1, Bool.and_eq_true] at this
    have h3 := List.all_eq_true.1 this.2.2.2.2.2.2.2.1 e (Array.mem_toList_iff.2 he)
    rw [hb] at h3
    simpa using h3
  · have := h1 j o q ho hq
    simp only [ckD1, Bool.and_eq_true] at this
    have h3 := List.all_eq_true.1 this.2.2.2.2.2.2.2.2 e (List.mem_range.2 (hlow j q hq e he))
    rw [he] at h3
    simp only [Bool.not_true, Bool.false_or, List.any_eq_true, Bool.and_eq_true, Bool.or_eq_true] at h3
    obtain ⟨x, hx, hxb, hx2⟩ := h3
    refine ⟨x, Array.mem_toList_iff.1 hx, hxb, ?_⟩
    rcases hx2 with h4 | h4
    · exact .inl (Nat.eq_of_beq_eq_true h4)
    · split at h4
      · rename_i p hp; exact .inr ⟨p, hp, h4⟩
      · cases h4
  all_goals
    have := h2 i j p q hp hq
    simp only [ckD2, Bool.and_eq_true, Bool.or_eq_true, Bool.not_eq_true'] at this
    obtain ⟨b1, b2, b3⟩ := this
  · rcases b3 with b3 | b3 | b3
    · rw [blt_eq, decide_eq_false_iff_not] at b3; exact absurd hij b3
    · exact b3
    · exfalso
      rcases b3.1 with b4 | b4
      · rw [kd_eq.1.2 hkp] at b4; cases b4
      · rw [kd_eq.1.2 hkq] at b4; cases b4.1
  · rcases b3 with b3 | b3 | b3
    · rw [blt_eq, decide_eq_false_iff_not] at b3; exact absurd hij b3
    · exact b3
    · exfalso
      rcases b3.1 with b4 | b4
      · rw [kd_eq.1.2 hkp] at b4; cases b4
      · rw [kd_eq.2.1.2 hkq] at b4; cases b4.2
  · rcases b3 with b3 | b3 | b3
    · rw [blt_eq, decide_eq_false_iff_not] at b3; exact absurd hij b3
    · exact b3
    · exfalso
      rcases b3.2 with b4 | b4
      · rw [kd_eq.2.1.2 hkp] at b4; cases b4
      · rw [kd_eq.1.2 hkq] at b4; cases b4
  · rcases b1 with b1 | b1
    · exact hij (Nat.eq_of_beq_eq_true b1)
    · rw [hpd] at b1
      have b1 : eqO (some (slotN x y)) q.ds.sl = false := b1
      rw [eqO_sl.2 hqd] at b1
      cases b1
  · rcases b2 with b2 | b2 | b2
    · exact .inl b2
    · exact .inr b2
    · exfalso
      have := List.all_eq_true.1 b2 _ hm
      have h3 : eqO (some (slotN x y)) p.ds.sl = true := eqO_sl.2 hpd
      have h4 : (X.t x y).sl = some (slotN x y) := rfl
      rw [h4, h3] at this
      cases this
/-- A region that holds what always fails. -/
def badI : I → Bool
  | .nlc (.k .np) _ => true
  | _ => false
noncomputable def ckDb (P : Program) (NG : Nat) (mt : Mt) (N : Nat) (ops : Array Oper) (L : List DI) : Bool := L.any (fun q => badI q.is) && allO (fun _ o q => badI q.is || okG (ckJ P NG N mt) N ops o q.is) 0 ops.toList L
theorem again_bad {c : CallE} {d : D} {i : I} {fr : Fr} {v : AV} {s : St} : again d i c fr v s .bad = .bad := by
  unfold again
  generalize evI i c fr s _ = r
  cases r <;> rfl
theorem againAll_bad {c : CallE} {m : Nat} {s : St} : ∀ (rd : List RdE), againAll rd m c s .bad = .bad
  | [] => rfl
  | .mk j d i fr v :: rd => by
    show ifB (bitN m j) (againAll rd m c s .bad) (again d i c fr v s (againAll rd m c s .bad)) = .bad
    rw [againAll_bad rd, again_bad]
    cases bitN m j <;> rfl
theorem ahead_bad {c : CallE} {m : Nat} {d : D} {i : I} {fr : Fr} {v : AV} : ∀ (hs : List (Nat × St)), ahead hs m d i c fr v .bad = .bad
  | [] => rfl
  | (j, s) :: hs => by
    show ifB (bitN m j) (ahead hs m d i c fr v .bad) (again d i c fr v s (ahead hs m d i c fr v .bad)) = .bad
    rw [ahead_bad hs, again_bad]
    cases bitN m j <;> rfl
theorem evDr_bad {c : CallE} : ∀ (l : List DI), (∀ q ∈ l, badI q.is = true ∨ CtI c q.is) → (∃ q ∈ l, badI q.is = true) → ∀ j rd hs fr s k, evDr l j rd hs c fr s k = .bad
  | [], _, h, _, _, _, _, _, _ => by obtain ⟨q, hq, _⟩ := h; cases hq
  | q :: l, hc, h, j, rd, hs, fr, s, k => by
    have hcl : ∀ p ∈ l, badI p.is = true ∨ CtI c p.is := fun p hp => hc p (List.mem_cons_of_mem _ hp)
    by_cases hb : badI q.is = true
    · obtain ⟨kd, m, d, i⟩ := q
      have hb : badI i = true := hb
      have hi : ∀ k, evI i c fr s k = .bad := fun k => by
        unfold badI at hb
        split at hb
        · rfl
        · cases hb
      cases kd
      · exact hi _
      · exact hi _
      · exact hi _
      · exact hi _
      · rfl
    · have hl : ∃ p ∈ l, badI p.is = true := by
        obtain ⟨p, hp, hpb⟩ := h
        rcases List.mem_cons.1 hp with rfl | hp
        · exact absurd hpb hb
        · exact ⟨p, hp, hpb⟩
      have ih := evDr_bad l hcl hl
      have hct := (hc q List.mem_cons_self).resolve_left hb
      obtain ⟨kd, m, d, i⟩ := q
      have hct : CtI c i := hct
      rcases hct fr s with h1 | ⟨fr', s', h1⟩
      · cases kd
        · exact h1 _
        · exact h1 _
        · exact h1 _
        · exact h1 _
        · rfl
      · cases kd
        · exact (h1 _).trans (ih _ _ _ _ _ _)
        · exact (h1 _).trans (ih _ _ _ _ _ _)
        · exact (h1 _).trans ((congrArg (ahead hs m d i c fr (D.get d fr')) (ih _ _ _ _ _ _)).trans (ahead_bad hs))
        · exact (h1 _).trans ((congrArg (againAll rd m c s') (ih _ _ _ _ _ _)).trans (againAll_bad rd))
        · rfl
theorem snd_db {P : Program} {NG : Env} {B0 N : Nat} {ro : Option Nat} {mt : Mt} (hk : Kn P mt) {id : Nat} {ops : Array Oper} {L : List DI} (h : ckDb P NG mt N ops L = true) : CSnd P NG B0 N (CAll P NG B0) ro (.region id ops true) (.drw L) := fun c hc fr s r w a lo hb hs hfr hdf Q hp => by
  simp only [ckDb, Bool.and_eq_true] at h
  obtain ⟨h1, h2⟩ := h
  obtain ⟨hlen, h2⟩ := allO_spec h2
  have e : evC (.drw L) c fr s = evDr L 0 [] [] c fr s .nrm := rfl
  have key : (∀ q ∈ L, badI q.is = true ∨ CtI c q.is) ∧ ∃ q ∈ L, badI q.is = true := by
    refine ⟨fun q hq => ?_, ?_⟩
    · obtain ⟨j, hj, rfl⟩ := List.mem_iff_getElem.1 hq
      have hjo : j < ops.size := by rw [Array.length_toList] at hlen; rw [hlen]; exact hj
      have ho : ops[j]? = some ops[j] := Array.getElem?_eq_getElem hjo
      have := h2 j ops[j] L[j] (by simp) (List.getElem?_eq_getElem hj)
      rw [Bool.or_eq_true] at this
      refine this.imp (fun h => h) fun hok fr s => ?_
      rcases snd_g (P := P) (NG := NG) (B0 := B0) (N := N) (C := CAll P NG B0) (ro := ro) (fun o i h => snd_cj hk h) ho hok hc fr s with h | ⟨f, t, h, _⟩
      · exact .inl h
      · exact .inr ⟨f, t, h⟩
    · obtain ⟨q, hq, hqb⟩ := List.any_eq_true.1 h1
      exact ⟨q, hq, hqb⟩
  rw [e, evDr_bad L key.1 key.2] at hp
  exact hp.elim
theorem snd_dr {P : Program} {NG : Env} {B0 : Nat} {ro : Option Nat} {mt : Mt} (hf : P.follows .mixedOrders = true) (hk : Kn P mt) : ∀ N id ops l, ckDr P NG mt N ops l = true → CSnd P NG B0 N (CAll P NG B0) ro (.region id ops true) (.drw l) := fun N id ops l h => dr_wp hf hk (drOk_of h) id
end Go.Proofs.YtenpbpgoglepfaaGreatDoor
namespace Go.Proofs.YtenpbpgoglepfaaGreatDoor
open Go.RowKit
set_option linter.unusedVariables false

theorem Hp.get_put_lt (h : Hp) {b : Nat} (hb : b < 65536) (g : GB) (b' : Nat) : Hp.get (Hp.put h b g) b' = if b' = b then g else Hp.get h b' := by
  unfold Hp.put
  rw [blt_eq, decide_eq_true hb, ifB_true]
  unfold Hp.get
  rcases h' : Nat.blt b' 65536 with _ | _
  · rw [blt_eq, decide_eq_false_iff_not] at h'
    rw [if_neg (by omega)]
    rfl
  · rw [blt_eq, decide_eq_true_iff] at h'
    rw [ifB_true, ifB_true]
    by_cases hn : b' = b
    · subst hn; rw [if_pos rfl, F.at4_same]
    · rw [if_neg hn, F.at4_ne _ _ hb h' hn]
/-- Is b the block of an operation of the list that m does not wait for? -/
def Hid' (fl : Fl) (m b : Nat) : Prop := ∃ j, (j, b) ∈ fl ∧ bitN m j = false
open Classical in
theorem hideH_get {fl : Fl} (hfl : ∀ e ∈ fl, e.2 < 65536) (m : Nat) (h : Hp) (b : Nat) : Hp.get (hideH fl m h) b = if Hid' fl m b then .no else Hp.get h b := by
  induction fl with
  | nil => rw [if_neg (by rintro ⟨j, hj, _⟩; cases hj)]; rfl
  | cons e fl ih =>
    obtain ⟨j, b'⟩ := e
    have ih := ih fun e he => hfl e (List.mem_cons_of_mem _ he)
    have hb' : b' < 65536 := hfl (j, b') List.mem_cons_self
    show Hp.get (ifB (bitN m j) (hideH fl m h) (Hp.put (hideH fl m h) b' .no)) b = _
    rcases hm : bitN m j with _ | _
    · rw [ifB_false, Hp.get_put_lt _ hb', ih]
      by_cases e : b = b'
      · subst e
        rw [if_pos rfl, if_pos ⟨j, List.mem_cons_self, hm⟩]
      · rw [if_neg e]
        by_cases hh : Hid' fl m b
        · rw [if_pos hh, if_pos]
          obtain ⟨i, h1, h2⟩ := hh
          exact ⟨i, List.mem_cons_of_mem _ h1, h2⟩
        · rw [if_neg hh, if_neg]
          rintro ⟨i, h1, h2⟩
          rcases List.mem_cons.1 h1 with h1 | h1
          · injection h1 with _ h1; exact e h1
          · exact hh ⟨i, h1, h2⟩
    · rw [ifB_true, ih]
      by_cases hh : Hid' fl m b
      · rw [if_pos hh, if_pos]
        obtain ⟨i, h1, h2⟩ := hh
        exact ⟨i, List.mem_cons_of_mem _ h1, h2⟩
      · rw [if_neg hh, if_neg]
        rintro ⟨i, h1, h2⟩
        rcases List.mem_cons.1 h1 with h1 | h1
        · injection h1 with h1 _; rw [h1, hm] at h2; cases h2
        · exact hh ⟨i, h1, h2⟩
open Classical in
theorem plusH_get {fl : Fl} (hfl : ∀ e ∈ fl, e.2 < 65536) (m : Nat) (h0 h : Hp) (b : Nat) : Hp.get (plusH fl m h0 h) b = if Hid' fl m b then Hp.get h0 b else Hp.get h b := by
  induction fl with
  | nil => rw [if_neg (by rintro ⟨j, hj, _⟩; cases hj)]; rfl
  | cons e fl ih =>
    obtain ⟨j, b'⟩ := e
    have ih := ih fun e he => hfl e (List.mem_cons_of_mem _ he)
    have hb' : b' < 65536 := hfl (j, b') List.mem_cons_self
    show Hp.get (ifB (bitN m j) (plusH fl m h0 h) (Hp.put (plusH fl m h0 h) b' (Hp.get h0 b'))) b = _
    rcases hm : bitN m j with _ | _
    · rw [ifB_false, Hp.get_put_lt _ hb', ih]
      by_cases e : b = b'
      · subst e
        rw [if_pos rfl, if_pos ⟨j, List.mem_cons_self, hm⟩]
      · rw [if_neg e]
        by_cases hh : Hid' fl m b
        · rw [if_pos hh, if_pos]
          obtain ⟨i, h1, h2⟩ := hh
          exact ⟨i, List.mem_cons_of_mem _ h1, h2⟩
        · rw [if_neg hh, if_neg]
          rintro ⟨i, h1, h2⟩
          rcases List.mem_cons.1 h1 with h1 | h1
          · injection h1 with _ h1; exact e h1
          · exact hh ⟨i, h1, h2⟩
    · rw [ifB_true, ih]
      by_cases hh : Hid' fl m b
      · rw [if_pos hh, if_pos]
        obtain ⟨i, h1, h2⟩ := hh
        exact ⟨i, List.mem_cons_of_mem _ h1, h2⟩
      · rw [if_neg hh, if_neg]
        rintro ⟨i, h1, h2⟩
        rcases List.mem_cons.1 h1 with h1 | h1
        · injection h1 with h1 _; rw [h1, hm] at h2; cases h2
        · exact hh ⟨i, h1, h2⟩
/-- A heap that is another one but for some blocks. -/
theorem Hp.over (f : Nat → Option GB) (a : Nat) : ∀ (n : Nat) (h : Hp), a + n ≤ 65536 → ∃ h', ∀ b, Hp.get h' b = if a ≤ b ∧ b < a + n then (f b).getD (Hp.get h b) else Hp.get h b
  | 0, h, _ => ⟨h, fun b => by rw [if_neg (by omega)]⟩
  | n + 1, h, hn => by
    obtain ⟨h', ih⟩ := Hp.over f a n h (by omega)
    refine ⟨Hp.put h' (a + n) ((f (a + n)).getD (Hp.get h (a + n))), fun b => ?_⟩
    rw [Hp.get_put_lt _ (by omega), ih]
    by_cases e : b = a + n
    · subst e
      rw [if_pos rfl, if_pos (by omega)]
    · rw [if_neg e]
      by_cases h2 : a ≤ b ∧ b < a + n
      · rw [if_pos h2, if_pos (by omega)]
      · rw [if_neg h2, if_neg (by omega)]
theorem flsOf_mem {n0 : Nat} {L : List DI} {j b : Nat} : (j, b) ∈ flsOf L n0 ↔ ∃ q, L[j]? = some q ∧ q.kd = .flo ∧ b = n0 + j := by
  have key : ∀ (l : List DI) (k : Nat), (j, b) ∈ (List.rec (motive := fun _ => Nat → Fl) (fun _ => []) (fun q _ ih j => DI.rec (motive := fun _ => Fl) (fun kd _ _ _ => Kd.rec (motive := fun _ => Fl) (ih (Nat.succ j)) (ih (Nat.succ j)) (ih (Nat.succ j)) (ih (Nat.succ j)) ((j, Nat.add n0 j) :: ih (Nat.succ j)) kd) q) l k : Fl) ↔
      k ≤ j ∧ ∃ q, l[j - k]? = some q ∧ q.kd = .flo ∧ b = n0 + j := by
    intro l
    induction l with
    | nil => intro k; constructor
             · intro h; cases h
             · rintro ⟨_, q, h, _⟩; simp at h
    | cons q l ih =>
      intro k
      obtain ⟨kd, m, d, i⟩ := q
      have hs : ∀ (p : Prop), (k + 1 ≤ j ∧ ∃ q, l[j - (k + 1)]? = some q ∧ q.kd = .flo ∧ b = n0 + j) ↔ (k ≤ j ∧ j ≠ k ∧ ∃ q, ((DI.mk kd m d i) :: l)[j - k]? = some q ∧ q.kd = .flo ∧ b = n0 + j) := fun _ => by
        constructor
        · rintro ⟨h1, q, h2, h3⟩
          refine ⟨by omega, by omega, q, ?_, h3⟩
          rw [show j - k = (j - (k + 1)) + 1 by omega]
          simpa using h2
        · rintro ⟨h1, h1', q, h2, h3⟩
          refine ⟨by omega, q, ?_, h3⟩
          rw [show j - k = (j - (k + 1)) + 1 by omega] at h2
          simpa using h2
      cases kd with
      | flo =>
        show (j, b) ∈ ((k, Nat.add n0 k) :: (_ : Fl)) ↔ _
        rw [List.mem_cons, ih (k + 1), hs True]
        constructor
        · rintro (h | ⟨h1, h2, h3⟩)
          · injection h with h1 h2
            subst h1
            exact ⟨Nat.le_refl _, .mk .flo m d i, by simp, rfl, h2⟩
          · exact ⟨h1, h3⟩
        · rintro ⟨h1, h3⟩
          by_cases e : j = k
          · subst e
            obtain ⟨q, _, _, hb⟩ := h3
            exact .inl (by rw [hb]; rfl)
          · exact .inr ⟨h1, e, h3⟩
      | _ =>
        refine (ih (k + 1)).trans ((hs True).trans ⟨fun ⟨h1, h2, h3⟩ => ⟨h1, h3⟩, fun ⟨h1, q, h2, h3, h4⟩ => ⟨h1, fun e => ?_, q, h2, h3, h4⟩⟩)
        subst e
        simp only [Nat.sub_self, List.getElem?_cons_zero, Option.some.injEq] at h2
        subst h2
        cases h3
  have := key L 0
  simp only [Nat.sub_zero, Nat.zero_le, true_and] at this
  exact this
/-- What a step of such a run tells. -/
def StepF (c : CallE) (fl : Fl) (n0 j : Nat) (q : DI) (f : Fr) (s : St) (f' : Fr) (s' : St) : Prop := match q.kd with
  | .pure => (∃ t, ∀ k, evI q.is c f s k = k f' t) ∧ s' = s
  | .read => (∃ t, ∀ k, evI q.is c f (hide fl q.ms s) k = k f' t) ∧ s' = s
  | .rdx => (∃ t, ∀ k, evI q.is c f (hide fl q.ms s) k = k f' t) ∧ s' = s
  | .act => ∃ t, (∀ k, evI q.is c f (hide fl q.ms s) k = k f' t) ∧ s' = .mk (plusH fl q.ms s.h t.h) t.n
  | .flo => ∃ t, (∀ k, evI q.is c f (.mk Hp.non (n0 + j)) k = k f' t) ∧ t.n = n0 + j + 1 ∧ s' = .mk (Hp.put s.h (n0 + j) (Hp.get t.h (n0 + j))) s.n ∧ belX n0 (rdsI q.is) f = true
structure TrF (c : CallE) (fl : Fl) (n0 : Nat) (L : List DI) (n : Nat) (Fm : Nat → Fr) (S : Nat → St) : Prop where
  step : ∀ j q, j < n → L[j]? = some q → StepF c fl n0 j q (Fm j) (S j) (Fm (j + 1)) (S (j + 1))
  back : ∀ (j : Nat) (q : DI) (e : Nat) (p : DI), j < n → L[j]? = some q → q.kd = .rdx → e < j → L[e]? = some p → p.kd = .act → bitN q.ms e = false → Ag c q.ds q.is (Fm j) (D.get q.ds (Fm (j + 1))) (hide fl q.ms (S e))
  fwd : ∀ (j : Nat) (q : DI) (e : Nat) (p : DI), e < n → L[j]? = some q → q.kd = .rdx → j < e → L[e]? = some p → p.kd = .act → bitN p.ms j = false → Ag c q.ds q.is (Fm j) (D.get q.ds (Fm (j + 1))) (hide fl q.ms (S (e + 1)))
section
variable {c : CallE} {fl : Fl} {n0 : Nat} {L : List DI} {n : Nat} {Fm : Nat → Fr} {S : Nat → St}
theorem TrF.ext (h : TrF c fl n0 L n Fm S) {q : DI} (hq : L[n]? = some q) {f : Fr} {t : St} (hstep : StepF c fl n0 n q (Fm n) (S n) f t)
    (hback : q.kd = .rdx → ∀ (e : Nat) (p : DI), e < n → L[e]? = some p → p.kd = .act → bitN q.ms e = false → Ag c q.ds q.is (Fm n) (D.get q.ds f) (hide fl q.ms (S e)))
    (hfwd : q.kd = .act → ∀ (j : Nat) (x : DI), j < n → L[j]? = some x → x.kd = .rdx → bitN q.ms j = false → Ag c x.ds x.is (Fm j) (D.get x.ds (Fm (j + 1))) (hide fl x.ms t)) :
    TrF c fl n0 L (n + 1) (upd n Fm f) (upd n S t) := by
  refine ⟨fun j x hj hx => ?_, fun j x e p hj hx hk he hp hpk hb => ?_, fun j x e p hj hx hk he hp hpk hb => ?_⟩
  · rcases Nat.lt_succ_iff_lt_or_eq.1 hj with hj | hj
    · rw [upd_le (by omega), upd_le (by omega), upd_le (by omega), upd_le (by omega)]; exact h.step j x hj hx
    · subst hj
      rw [hq] at hx; cases hx
      rw [upd_le (Nat.le_refl _), upd_le (Nat.le_refl _), upd_succ, upd_succ]
      exact hstep
  · rcases Nat.lt_succ_iff_lt_or_eq.1 hj with hj | hj
    · rw [upd_le (by omega), upd_le (by omega), upd_le (by omega)]; exact h.back j x e p hj hx hk he hp hpk hb
    · subst hj
      rw [hq] at hx; cases hx
      rw [upd_le (Nat.le_refl _), upd_succ, upd_le (by omega)]
      exact hback hk e p he hp hpk hb
  · rcases Nat.lt_succ_iff_lt_or_eq.1 hj with hj | hj
    · rw [upd_le (by omega), upd_le (by omega), upd_le (by omega)]; exact h.fwd j x e p hj hx hk he hp hpk hb
    · subst hj
      rw [hq] at hp; cases hp
      rw [upd_le (by omega), upd_le (by omega), upd_succ]
      exact hfwd hpk j x he hx hk hb
def RdF.is : RdF → I | .mk _ _ _ i _ _ => i
theorem againAllF_ok {m : Nat} {s : St} : ∀ {rd : List RdF}, (∀ e ∈ rd, CtI c e.is) →
    (∀ k, againAllF fl rd m c s k = .bad) ∨ ((∀ j mj d i fr v, RdF.mk j mj d i fr v ∈ rd → bitN m j = false → Ag c d i fr v (hide fl mj s)) ∧ ∀ k, againAllF fl rd m c s k = k)
  | [], _ => .inr ⟨fun _ _ _ _ _ _ h => (by cases h), fun _ => rfl⟩
  | .mk j mj d i fr v :: rd, h => by
    have e : ∀ k, againAllF fl (.mk j mj d i fr v :: rd) m c s k = ifB (bitN m j) (againAllF fl rd m c s k) (again d i c fr v (hide fl mj s) (againAllF fl rd m c s k)) := fun _ => rfl
    have hi : CtI c i := h _ List.mem_cons_self
    rcases againAllF_ok (m := m) (s := s) fun e he => h e (List.mem_cons_of_mem _ he) with h1 | ⟨h1, h2⟩
    · left; intro k; rw [e, h1]
      cases bitN m j
      · show again d i c fr v (hide fl mj s) .bad = .bad
        exact again_bad
      · rfl
    · rcases hb : bitN m j with _ | _
      · rcases again_ok (d := d) (fr := fr) (v := v) (s := hide fl mj s) hi with h3 | ⟨h4, h3⟩
        · left; intro k; rw [e, hb]; exact h3 _
        · right
          refine ⟨fun j' mj' d' i' fr' v' hm hj => ?_, fun k => by rw [e, hb, h2]; exact h3 _⟩
          rcases List.mem_cons.1 hm with hm | hm
          · cases hm; exact h4
          · exact h1 _ _ _ _ _ _ hm hj
      · right
        refine ⟨fun j' mj' d' i' fr' v' hm hj => ?_, fun k => by rw [e, hb, h2]; rfl⟩
        rcases List.mem_cons.1 hm with hm | hm
        · cases hm; rw [hb] at hj; cases hj
        · exact h1 _ _ _ _ _ _ hm hj
theorem aheadF_ok {m : Nat} {d : D} {i : I} {fr : Fr} {v : AV} (hi : CtI c i) : ∀ {hs : List (Nat × St)},
    (∀ k, aheadF fl hs m d i c fr v k = .bad) ∨ ((∀ j s, (j, s) ∈ hs → bitN m j = false → Ag c d i fr v (hide fl m s)) ∧ ∀ k, aheadF fl hs m d i c fr v k = k)
  | [] => .inr ⟨fun _ _ h => (by cases h), fun _ => rfl⟩
  | (j, s) :: hs => by
    have e : ∀ k, aheadF fl ((j, s) :: hs) m d i c fr v k = ifB (bitN m j) (aheadF fl hs m d i c fr v k) (again d i c fr v (hide fl m s) (aheadF fl hs m d i c fr v k)) := fun _ => rfl
    rcases aheadF_ok (m := m) (d := d) (fr := fr) (v := v) hi (hs := hs) with h1 | ⟨h1, h2⟩
    · left; intro k; rw [e, h1]
      cases bitN m j
      · show again d i c fr v (hide fl m s) .bad = .bad
        exact again_bad
      · rfl
    · rcases hb : bitN m j with _ | _
      · rcases again_ok (d := d) (fr := fr) (v := v) (s := hide fl m s) hi with h3 | ⟨h4, h3⟩
        · left; intro k; rw [e, hb]; exact h3 _
        · right
          refine ⟨fun j' s' hm hj => ?_, fun k => by rw [e, hb, h2]; exact h3 _⟩
          rcases List.mem_cons.1 hm with hm | hm
          · cases hm; exact h4
          · exact h1 _ _ hm hj
      · right
        refine ⟨fun j' s' hm hj => ?_, fun k => by rw [e, hb, h2]; rfl⟩
        rcases List.mem_cons.1 hm with hm | hm
        · cases hm; rw [hb] at hj; cases hj
        · exact h1 _ _ hm hj
theorem trf_of (hL : ∀ q ∈ L, CtI c q.is) : ∀ (l : List DI) (j : Nat) (rd : List RdF) (hs : List (Nat × St)) (Fm : Nat → Fr) (S : Nat → St), L.drop j = l → j + l.length = L.length → TrF c fl n0 L j Fm S →
    (∀ i q, i < j → L[i]? = some q → q.kd = .rdx → RdF.mk i q.ms q.ds q.is (Fm i) (D.get q.ds (Fm (i + 1))) ∈ rd) → (∀ e ∈ rd, CtI c e.is) → (∀ e q, e < j → L[e]? = some q → q.kd = .act → (e, S e) ∈ hs) →
    (∀ k, evDf fl n0 l j rd hs c (Fm j) (S j) k = .bad) ∨ ∃ F' S', F' 0 = Fm 0 ∧ S' 0 = S 0 ∧ TrF c fl n0 L L.length F' S' ∧ ∀ k, evDf fl n0 l j rd hs c (Fm j) (S j) k = k (F' L.length) (S' L.length)
  | [], j, rd, hs, Fm, S, hd, hlen, ht, hrd, hrd2, hhs => by
    have : j = L.length := by simpa using hlen
    subst this
    exact .inr ⟨Fm, S, rfl, rfl, ht, fun _ => rfl⟩
  | q :: l, j, rd, hs, Fm, S, hd, hlen, ht, hrd, hrd2, hhs => by
    have hj : j < L.length := by simp only [List.length_cons] at hlen; omega
    rw [List.drop_eq_getElem_cons hj] at hd
    obtain ⟨e1, e2⟩ := List.cons.inj hd
    have hq : L[j]? = some q := by rw [List.getElem?_eq_getElem hj, e1]
    have hlen' : j + 1 + l.length = L.length := by simp only [List.length_cons] at hlen; omega
    have hqm : CtI c q.is := hL q (e1 ▸ List.getElem_mem hj)
    obtain ⟨kd, m, d, i⟩ := q
    have hqm : CtI c i := hqm
    -- the rest, from one more frame and state on
    have rest : ∀ (f : Fr) (t : St) (rd' : List RdF) (hs' : List (Nat × St)), TrF c fl n0 L (j + 1) (upd j Fm f) (upd j S t) → (∀ e ∈ rd, e ∈ rd') → (kd = .rdx → RdF.mk j m d i (Fm j) (D.get d f) ∈ rd') → (∀ e ∈ rd', CtI c e.is) → (∀ e ∈ hs, e ∈ hs') → (kd = .act → (j, S j) ∈ hs') →
        (∀ k, evDf fl n0 l (j + 1) rd' hs' c f t k = .bad) ∨ ∃ F' S', F' 0 = Fm 0 ∧ S' 0 = S 0 ∧ TrF c fl n0 L L.length F' S' ∧ ∀ k, evDf fl n0 l (j + 1) rd' hs' c f t k = k (F' L.length) (S' L.length) := fun f t rd' hs' htr h1 h2 h3 h4 h5 => by
      have := trf_of hL l (j + 1) rd' hs' _ _ e2 hlen' htr
        (fun i' q hi hq' hk => by
          rcases Nat.lt_succ_iff_lt_or_eq.1 hi with hi | hi
          · rw [upd_le (by omega), upd_le (by omega)]; exact h1 _ (hrd i' q hi hq' hk)
          · subst hi
            rw [hq] at hq'; cases hq'
            rw [upd_le (Nat.le_refl _), upd_succ]
            exact h2 hk) h3
        (fun e q he hq' hk => by
          rcases Nat.lt_succ_iff_lt_or_eq.1 he with he | he
          · rw [upd_le (by omega)]; exact h4 _ (hhs e q he hq' hk)
          · subst he
            rw [hq] at hq'; cases hq'
            rw [upd_le (Nat.le_refl _)]
            exact h5 hk)
      rw [upd_succ, upd_succ] at this
      rcases this with h | ⟨F', S', g1, g2, g3, g4⟩
      · exact .inl h
      · exact .inr ⟨F', S', by rw [g1, upd_le (Nat.zero_le _)], by rw [g2, upd_le (Nat.zero_le _)], g3, g4⟩
    cases kd with
    | pure =>
      rcases hqm (Fm j) (S j) with hb | ⟨f, t, hok⟩
      · exact .inl fun k => hb _
      · have e3 : ∀ k, evDf fl n0 (.mk .pure m d i :: l) j rd hs c (Fm j) (S j) k = evDf fl n0 l (j + 1) rd hs c f (S j) k := fun k => hok _
        simp only [e3]
        exact rest f (S j) rd hs (ht.ext hq ⟨⟨t, hok⟩, rfl⟩ (fun e => by cases e) (fun e => by cases e)) (fun _ h => h) (fun e => by cases e) hrd2 (fun _ h => h) (fun e => by cases e)
    | read =>
      rcases hqm (Fm j) (hide fl m (S j)) with hb | ⟨f, t, hok⟩
      · exact .inl fun k => hb _
      · have e3 : ∀ k, evDf fl n0 (.mk .read m d i :: l) j rd hs c (Fm j) (S j) k = evDf fl n0 l (j + 1) rd hs c f (S j) k := fun k => hok _
        simp only [e3]
        exact rest f (S j) rd hs (ht.ext hq ⟨⟨t, hok⟩, rfl⟩ (fun e => by cases e) (fun e => by cases e)) (fun _ h => h) (fun e => by cases e) hrd2 (fun _ h => h) (fun e => by cases e)
    | rdx =>
      rcases hqm (Fm j) (hide fl m (S j)) with hb | ⟨f, t, hok⟩
      · exact .inl fun k => hb _
      · have e3 : ∀ k, evDf fl n0 (.mk .rdx m d i :: l) j rd hs c (Fm j) (S j) k = aheadF fl hs m d i c (Fm j) (D.get d f) (evDf fl n0 l (j + 1) (.mk j m d i (Fm j) (D.get d f) :: rd) hs c f (S j) k) := fun k => hok _
        simp only [e3]
        rcases aheadF_ok (fl := fl) (i := i) (m := m) (d := d) (fr := Fm j) (v := D.get d f) hqm (hs := hs) with h | ⟨h, h'⟩
        · exact .inl fun k => h _
        · simp only [h']
          exact rest f (S j) _ hs (ht.ext hq ⟨⟨t, hok⟩, rfl⟩ (fun _ e p he hp hpk hb => h e (S e) (hhs e p he hp hpk) hb) (fun e => by cases e)) (fun _ h => List.mem_cons_of_mem _ h) (fun _ => List.mem_cons_self)
            (fun e he => by
              rcases List.mem_cons.1 he with rfl | he
              · exact hqm
              · exact hrd2 e he) (fun _ h => h) (fun e => by cases e)
    | act =>
      rcases hqm (Fm j) (hide fl m (S j)) with hb | ⟨f, t, hok⟩
      · exact .inl fun k => hb _
      · have e3 : ∀ k, evDf fl n0 (.mk .act m d i :: l) j rd hs c (Fm j) (S j) k = againAllF fl rd m c (.mk (plusH fl m (S j).h t.h) t.n) (evDf fl n0 l (j + 1) rd ((j, S j) :: hs) c f (.mk (plusH fl m (S j).h t.h) t.n) k) := fun k => hok _
        simp only [e3]
        rcases againAllF_ok (fl := fl) (m := m) (s := .mk (plusH fl m (S j).h t.h) t.n) hrd2 with h | ⟨h, h'⟩
        · exact .inl fun k => h _
        · simp only [h']
          exact rest f _ rd _ (ht.ext hq ⟨t, hok, rfl⟩ (fun e => by cases e) (fun _ j' x hj' hx hk hb => h _ _ _ _ _ _ (hrd j' x hj' hx hk) hb)) (fun _ h => h) (fun e => by cases e) hrd2 (fun _ h => List.mem_cons_of_mem _ h) (fun _ => List.mem_cons_self)
    | flo =>
      have e3 : ∀ k, evDf fl n0 (.mk .flo m d i :: l) j rd hs c (Fm j) (S j) k = ifB (belX n0 (rdsI i) (Fm j)) (evI i c (Fm j) (.mk Hp.non (Nat.add n0 j)) fun fr' s' => ifB (Nat.beq s'.n (Nat.succ (Nat.add n0 j))) (evDf fl n0 l (j + 1) rd hs c fr' (.mk (Hp.put (S j).h (Nat.add n0 j) (Hp.get s'.h (Nat.add n0 j))) (S j).n) k) .bad) .bad := fun k => rfl
      simp only [e3]
      rcases hbel : belX n0 (rdsI i) (Fm j) with _ | _
      · exact .inl fun k => rfl
      rcases hqm (Fm j) (.mk Hp.non (Nat.add n0 j)) with hb | ⟨f, t, hok⟩
      · exact .inl fun k => hb _
      have e4 : ∀ k, ifB true (evI i c (Fm j) (.mk Hp.non (Nat.add n0 j)) fun fr' s' => ifB (Nat.beq s'.n (Nat.succ (Nat.add n0 j))) (evDf fl n0 l (j + 1) rd hs c fr' (.mk (Hp.put (S j).h (Nat.add n0 j) (Hp.get s'.h (Nat.add n0 j))) (S j).n) k) .bad) .bad =
          ifB (Nat.beq t.n (Nat.succ (Nat.add n0 j))) (evDf fl n0 l (j + 1) rd hs c f (.mk (Hp.put (S j).h (Nat.add n0 j) (Hp.get t.h (Nat.add n0 j))) (S j).n) k) .bad := fun k => hok _
      simp only [e4]
      rcases hn : Nat.beq t.n (Nat.succ (Nat.add n0 j)) with _ | _
      · exact .inl fun k => rfl
      exact rest f _ rd hs (ht.ext hq ⟨t, hok, Nat.eq_of_beq_eq_true hn, rfl, hbel⟩ (fun e => by cases e) (fun e => by cases e)) (fun _ h => h) (fun e => by cases e) hrd2 (fun _ h => h) (fun e => by cases e)
end
end Go.Proofs.YtenpbpgoglepfaaGreatDoor
namespace Go.Proofs.YtenpbpgoglepfaaGreatDoor
open Go.RowKit
set_option linter.unusedVariables false

/-- What the check of such a region says. -/
structure DfK (P : Program) (NG N : Nat) (mt : Mt) (ops : Array Oper) (L : List DI) : Prop where
  len : ops.size = L.length
  snd : ∀ (j : Nat) (o : Oper) (q : DI), ops[j]? = some o → L[j]? = some q → okG (ckJ P NG N mt) N ops o q.is = true ∧ dB o.dst q.ds = true ∧ dstI q.is = q.ds ∧ gdI q.is ∧ (q.kd = .pure → pureI q.is = true) ∧ (q.kd ≠ .act → q.kd ≠ .flo → readI q.is = true)
  low : ∀ (j : Nat) (q : DI), L[j]? = some q → ∀ e, bitN q.ms e = true → e < j
  edge : ∀ (j : Nat) (o : Oper) (q : DI), ops[j]? = some o → L[j]? = some q → ∀ e ∈ o.after, Region.binds .any e = true → bitN q.ms e.on = true
  clos : ∀ (j : Nat) (o : Oper) (q : DI), ops[j]? = some o → L[j]? = some q → ∀ e, bitN q.ms e = true → ∃ x ∈ o.after, Region.binds .any x = true ∧ (x.on = e ∨ ∃ p, L[x.on]? = some p ∧ bitN p.ms e = true)
  chain : ∀ (i j : Nat) (p q : DI), L[i]? = some p → L[j]? = some q → i < j → p.kd = .act → q.kd = .act → bitN q.ms i = true
  rd1 : ∀ (i j : Nat) (p q : DI), L[i]? = some p → L[j]? = some q → i < j → p.kd = .act → q.kd = .read → bitN q.ms i = true
  rd2 : ∀ (i j : Nat) (p q : DI), L[i]? = some p → L[j]? = some q → i < j → p.kd = .read → q.kd = .act → bitN q.ms i = true
  dst : ∀ (i j : Nat) (p q : DI), L[i]? = some p → L[j]? = some q → i ≠ j → ∀ h l, p.ds = .to h l → q.ds ≠ .to h l
  opd : ∀ (i j : Nat) (p q : DI), L[i]? = some p → L[j]? = some q → ∀ h l, X.t h l ∈ rdsI q.is → p.ds = .to h l → bitN q.ms i = true ∨ bitN p.ms j = true
/-- Is j an operation that makes a block at any time? -/
def Flo (L : List DI) (j : Nat) : Prop := ∃ q, L[j]? = some q ∧ q.kd = .flo
section
variable {P : Program} {NG : Env} {B0 N : Nat} {ro : Option Nat} {mt : Mt} {ops : Array Oper} {L : List DI} {c : CallE} {Fm : Nat → Fr} {S : Nat → St} {n0 : Nat}
theorem fls_lt (hnn : n0 + L.length < 65536) : ∀ e ∈ flsOf L n0, e.2 < 65536 := fun e he => by
  obtain ⟨j, b⟩ := e
  obtain ⟨q, hq, _, rfl⟩ := flsOf_mem.1 he
  have := (List.getElem?_eq_some_iff.1 hq).1
  show n0 + j < 65536
  omega
theorem hid_iff {m b : Nat} : Hid' (flsOf L n0) m b ↔ ∃ j, Flo L j ∧ b = n0 + j ∧ bitN m j = false := by
  constructor
  · rintro ⟨j, h1, h2⟩
    obtain ⟨q, hq, hk, hb⟩ := flsOf_mem.1 h1
    exact ⟨j, ⟨q, hq, hk⟩, hb, h2⟩
  · rintro ⟨j, ⟨q, hq, hk⟩, hb, h2⟩
    exact ⟨j, flsOf_mem.2 ⟨q, hq, hk, hb⟩, h2⟩
theorem StepF.ev {fl : Fl} {j : Nat} {q : DI} {f f' : Fr} {s s' : St} (h : StepF c fl n0 j q f s f' s') : ∃ v t, ∀ k, evI q.is c f v k = k f' t := by
  unfold StepF at h
  split at h
  · exact ⟨_, h.1.choose, h.1.choose_spec⟩
  · exact ⟨_, h.1.choose, h.1.choose_spec⟩
  · exact ⟨_, h.1.choose, h.1.choose_spec⟩
  · exact ⟨_, h.choose, h.choose_spec.1⟩
  · exact ⟨_, h.choose, h.choose_spec.1⟩
theorem TrF.shape {fl : Fl} (h : DfK P NG N mt ops L) (ht : TrF c fl n0 L L.length Fm S) {j : Nat} {q : DI} (hq : L[j]? = some q) : Fm (j + 1) = D.put q.ds (D.get q.ds (Fm (j + 1))) (Fm j) := by
  have hj := (List.getElem?_eq_some_iff.1 hq).1
  obtain ⟨v, t, h1⟩ := (ht.step j q hj hq).ev
  obtain ⟨o, ho⟩ : ∃ o, ops[j]? = some o := ⟨_, Array.getElem?_eq_getElem (by rw [h.len]; exact hj)⟩
  obtain ⟨_, _, hd, hg, _⟩ := h.snd j o q ho hq
  have := loc (fr := Fm j) (fr' := Fm j) (c := c) (s := v) (k := .nrm) (k' := fun f t => .nrm (D.put q.ds (D.get q.ds f) (Fm j)) t) q.is hg (fun _ _ => rfl) (fun v t => by
    rw [hd]
    cases hds : q.ds with
    | no => rfl
    | to x y => rw [D.get_to_put])
  rw [h1, h1] at this
  injection this
theorem TrF.get_far {fl : Fl} (h : DfK P NG N mt ops L) (ht : TrF c fl n0 L L.length Fm S) {x y : H} : ∀ {m : Nat} {m' : Nat}, m' ≤ m → m ≤ L.length → (∀ (j : Nat) (q : DI), m' ≤ j → j < m → L[j]? = some q → q.ds ≠ .to x y) → F.get y (F.get x (Fm m)) = F.get y (F.get x (Fm m')) := by
  intro m
  induction m with
  | zero => intro m' hm _ _; obtain rfl : m' = 0 := by omega
            rfl
  | succ m ih =>
    intro m' hm hl hf
    by_cases e : m' = m + 1
    · rw [e]
    · have hq : L[m]? = some L[m] := List.getElem?_eq_getElem (by omega)
      rw [ht.shape h hq]
      have hne := hf m _ (by omega) (by omega) hq
      cases hd : L[m].ds with
      | no => rw [D.put_no]; exact ih (by omega) (by omega) fun j q h1 h2 hq => hf j q h1 (by omega) hq
      | to p q =>
        rw [D.get_put, if_neg (fun e => hne (by rw [hd, e.1, e.2]))]
        exact ih (by omega) (by omega) fun j q h1 h2 hq => hf j q h1 (by omega) hq
theorem TrF.get_near {fl : Fl} (h : DfK P NG N mt ops L) (ht : TrF c fl n0 L L.length Fm S) {x y : H} {j m : Nat} {q : DI} (hq : L[j]? = some q) (hd : q.ds = .to x y) (hj : j < m) (hm : m ≤ L.length) : F.get y (F.get x (Fm m)) = D.get q.ds (Fm (j + 1)) := by
  rw [hd, D.get_to]
  refine ht.get_far h (by omega) hm fun i p h1 h2 hp => ?_
  exact h.dst j i q p hq hp (by omega) x y hd
/-- No act in between: what is no new block stays; so many blocks. -/
theorem TrF.const (hnn : n0 + L.length < 65536) (ht : TrF c (flsOf L n0) n0 L L.length Fm S) : ∀ {b a : Nat}, a ≤ b → b ≤ L.length → (∀ (j : Nat) (q : DI), a ≤ j → j < b → L[j]? = some q → q.kd ≠ .act) →
    (S b).n = (S a).n ∧ ∀ x, (∀ j, a ≤ j → j < b → Flo L j → x ≠ n0 + j) → Hp.get (S b).h x = Hp.get (S a).h x := by
  intro b
  induction b with
  | zero => intro a h _ _; obtain rfl : a = 0 := by omega
            exact ⟨rfl, fun _ _ => rfl⟩
  | succ b ih =>
    intro a h hb hq
    by_cases e : a = b + 1
    · subst e; exact ⟨rfl, fun _ _ => rfl⟩
    · have hl : L[b]? = some L[b] := List.getElem?_eq_getElem (by omega)
      have hs := ht.step b _ (by omega) hl
      obtain ⟨i1, i2⟩ := ih (a := a) (by omega) (by omega) fun j q h1 h2 hq' => hq j q h1 (by omega) hq'
      have hna := hq b _ (by omega) (by omega) hl
      unfold StepF at hs
      split at hs
      · rw [hs.2]; exact ⟨i1, fun x hx => i2 x fun j h1 h2 => hx j h1 (by omega)⟩
      · rw [hs.2]; exact ⟨i1, fun x hx => i2 x fun j h1 h2 => hx j h1 (by omega)⟩
      · rw [hs.2]; exact ⟨i1, fun x hx => i2 x fun j h1 h2 => hx j h1 (by omega)⟩
      · rename_i hk; exact absurd hk hna
      · rename_i hk
        obtain ⟨t, _, _, h3, _⟩ := hs
        rw [h3]
        refine ⟨i1, fun x hx => ?_⟩
        rw [St.h_mk, Hp.get_put_lt _ (by omega), if_neg (hx b (by omega) (by omega) ⟨_, hl, hk⟩)]
        exact i2 x fun j h1 h2 => hx j h1 (by omega)
/-- A block ahead of its operation is nothing. -/
theorem TrF.none (hnn : n0 + L.length < 65536) (h : DfK P NG N mt ops L) (ht : TrF c (flsOf L n0) n0 L L.length Fm S) (h0 : ∀ j, Flo L j → Hp.get (S 0).h (n0 + j) = .no) {j : Nat} (hj : Flo L j) : ∀ {q : Nat}, q ≤ j → q ≤ L.length → Hp.get (S q).h (n0 + j) = .no := by
  intro q
  induction q with
  | zero => intro _ _; exact h0 j hj
  | succ q ih =>
    intro hq hl
    have ih := ih (by omega) (by omega)
    have hx : L[q]? = some L[q] := List.getElem?_eq_getElem (by omega)
    have hs := ht.step q _ (by omega) hx
    unfold StepF at hs
    split at hs
    · rw [hs.2]; exact ih
    · rw [hs.2]; exact ih
    · rw [hs.2]; exact ih
    · obtain ⟨t, _, h3⟩ := hs
      rw [h3, St.h_mk, plusH_get (fls_lt hnn), if_pos]
      · exact ih
      · refine hid_iff.2 ⟨j, hj, rfl, ?_⟩
        cases hb : bitN L[q].ms j
        · rfl
        · have := h.low q _ hx j hb; omega
    · obtain ⟨t, _, _, h3, _⟩ := hs
      rw [h3, St.h_mk, Hp.get_put_lt _ (by omega), if_neg (by omega)]
      exact ih
/-- A block that no act behind it waits for stays as it was made. -/
theorem TrF.keep (hnn : n0 + L.length < 65536) (ht : TrF c (flsOf L n0) n0 L L.length Fm S) {j : Nat} (hj : Flo L j) : ∀ {q : Nat}, j < q → q ≤ L.length → (∀ (e : Nat) (p : DI), j < e → e < q → L[e]? = some p → p.kd = .act → bitN p.ms j = false) → Hp.get (S q).h (n0 + j) = Hp.get (S (j + 1)).h (n0 + j) := by
  intro q
  induction q with
  | zero => intro h; omega
  | succ q ih =>
    intro hq hl hf
    by_cases e : j = q
    · rw [e]
    · have ih := ih (by omega) (by omega) fun e p h1 h2 => hf e p h1 (by omega)
      have hx : L[q]? = some L[q] := List.getElem?_eq_getElem (by omega)
      have hs := ht.step q _ (by omega) hx
      unfold StepF at hs
      split at hs
      · rw [hs.2]; exact ih
      · rw [hs.2]; exact ih
      · rw [hs.2]; exact ih
      · rename_i hk
        obtain ⟨t, _, h3⟩ := hs
        rw [h3, St.h_mk, plusH_get (fls_lt hnn), if_pos (hid_iff.2 ⟨j, hj, rfl, hf q _ (by omega) (by omega) hx hk⟩)]
        exact ih
      · obtain ⟨t, _, _, h3, _⟩ := hs
        rw [h3, St.h_mk, Hp.get_put_lt _ (by omega), if_neg (by omega)]
        exact ih
/-- A state that says less. -/
theorem Sim.sub {r : Rho} {s u : St} {w : World} (h : Sim B0 r u w) (hn : s.n = u.n) (hsub : ∀ b, Hp.get s.h b = .no ∨ Hp.get s.h b = Hp.get u.h b) : Sim B0 r s w := by
  refine ⟨hn.trans h.n, h.lt, h.low, fun b => ?_, fun b b' hb hb' e => ?_, h.ety⟩
  · rcases hsub b with e | e
    · rw [e]; trivial
    · rw [e]; exact h.ok b
  · have h1 : (Hp.get u.h b).live := by
      rcases hsub b with e | e
      · rw [e] at hb; exact hb.elim
      · rw [← e]; exact hb
    have h2 : (Hp.get u.h b').live := by
      rcases hsub b' with e | e
      · rw [e] at hb'; exact hb'.elim
      · rw [← e]; exact hb'
    exact h.inj b b' h1 h2 e
/-- What a step of a state that says less does to one that says more. -/
theorem Sim.frame {r r' : Rho} {s s' u u' : St} {w w' : World} (hu : Sim B0 r u w) (hsub : ∀ b, Hp.get s.h b = .no ∨ Hp.get s.h b = Hp.get u.h b) (hs' : Sim B0 r' s' w') (hst : Stp r s w r' s' w') (hn : u'.n = s'.n)
    (hu' : ∀ b, Hp.get u'.h b = .no ∨ Hp.get u'.h b = Hp.get s'.h b ∨ (Hp.get u'.h b = Hp.get u.h b ∧ Hp.get s.h b = .no)) : Sim B0 r' u' w' ∧ Stp r u w r' u' w' := by
  have hlive : ∀ a, (Hp.get s.h a).live → (Hp.get u.h a).live := fun a ha => by
    rcases hsub a with e | e
    · rw [e] at ha; exact ha.elim
    · rw [← e]; exact ha
  -- a block of u that s does not know stays
  have hkeep : ∀ b, Hp.get u.h b ≠ .no → Hp.get s.h b = .no → r.has b ∧ r'.blk b = r.blk b ∧ r.blk b < w.heap.size ∧ w'.heap[r.blk b]? = w.heap[r.blk b]? := fun b hb hsb => by
    obtain ⟨h1, h2⟩ := (hu.ok b).lt hb
    refine ⟨h1, (hst.le.same b h1).2.1, h2, hst.keep _ h2 fun a ha e => ?_⟩
    by_cases hlb : (Hp.get u.h b).live
    · have := hu.inj a b (hlive a ha) hlb e
      rw [this, hsb] at ha
      exact ha
    · have h3 := hu.live_ge (hlive a ha)
      have h4 := hu.ok b
      cases e4 : Hp.get u.h b with
      | no => exact hb e4
      | ro c => rw [e4] at h4; have := h4.2.1; omega
      | rw c => rw [e4] at hlb; exact hlb trivial
      | mp c => rw [e4] at hlb; exact hlb trivial
      | lp c => rw [e4] at hlb; exact hlb trivial
  refine ⟨⟨hn.trans hs'.n, hs'.lt, hs'.low, fun b => ?_, fun b b' hb hb' e => ?_, hs'.ety⟩, ⟨hst.le, hst.os, hst.tape, hst.output, hst.size, fun x hx hnl => hst.keep x hx fun a ha => hnl a (hlive a ha), hst.new, fun b hb => ?_⟩⟩
  · by_cases hno : Hp.get u'.h b = .no
    · rw [hno]; trivial
    · rcases hu' b with e | e | ⟨e, e2⟩
      · exact absurd e hno
      · rw [e]; exact hs'.ok b
      · rw [e] at hno ⊢
        exact OkB.le (hu.ok b) hst.le (hkeep b hno e2).2.2.2
  · have key : ∀ b b', (Hp.get u'.h b).live → (Hp.get u'.h b').live → r'.blk b = r'.blk b' → Hp.get u'.h b = Hp.get s'.h b → (Hp.get u'.h b' = Hp.get u.h b' ∧ Hp.get s.h b' = .no) → False := fun b b' hb hb' e k1 ⟨k2, k3⟩ => by
      rw [k1] at hb
      rw [k2] at hb'
      obtain ⟨z1, z2, z3, _⟩ := hkeep b' (live_ne hb') k3
      rcases hst.old b hb with ⟨a, ha, e'⟩ | h'
      · have := hu.inj a b' (hlive a ha) hb' (by rw [e', e, z2])
        rw [this, k3] at ha
        exact ha
      · omega
    rcases hu' b with k | k | k
    · rw [k] at hb; exact hb.elim
    · rcases hu' b' with q | q | q
      · rw [q] at hb'; exact hb'.elim
      · rw [k] at hb; rw [q] at hb'; exact hs'.inj b b' hb hb' e
      · exact (key b b' hb hb' e k q).elim
    · rcases hu' b' with q | q | q
      · rw [q] at hb'; exact hb'.elim
      · exact (key b' b hb' hb e.symm q k).elim
      · rw [k.1] at hb
        rw [q.1] at hb'
        obtain ⟨z1, z2, _⟩ := hkeep b (live_ne hb) k.2
        obtain ⟨y1, y2, _⟩ := hkeep b' (live_ne hb') q.2
        rw [z2, y2] at e
        exact hu.inj b b' hb hb' e
  · rcases hu' b with k | k | k
    · rw [k] at hb; exact hb.elim
    · rw [k] at hb
      rcases hst.old b hb with ⟨a, ha, e'⟩ | h'
      · exact .inl ⟨a, hlive a ha, e'⟩
      · exact .inr h'
    · rw [k.1] at hb
      obtain ⟨z1, z2, _⟩ := hkeep b (live_ne hb) k.2
      exact .inl ⟨b, hb, z2.symm⟩
/-- The places of a state where all blocks below n are known alone. -/
def Rho.cut (r : Rho) (n m : Nat) : Rho := ⟨m, fun b => r.has b ∧ b < n, r.blk, r.off, r.tot, r.lp, r.opq⟩
theorem rel_cut {r : Rho} {n m : Nat} : ∀ v : AV, (∀ x, belA n v = true → Rel r v x → Rel (r.cut n m) v x) ∧ (∀ xs, belA n v = true → RelL r v xs → RelL (r.cut n m) v xs) := by
  have hb : ∀ b, Nat.blt b n = true → b < n := fun b h => by rwa [blt_eq, decide_eq_true_iff] at h
  intro v
  induction v with
  | u => exact ⟨fun _ _ _ => trivial, fun _ _ k => by simp [RelL] at k⟩
  | p b o =>
    refine ⟨fun x h k => ?_, fun _ _ k => by simp [RelL] at k⟩
    simp only [Rel] at k ⊢
    exact ⟨⟨k.1, hb b h⟩, k.2⟩
  | s b o z len cap ex =>
    refine ⟨fun x h k => ?_, fun _ _ k => by simp [RelL] at k⟩
    simp only [Rel] at k ⊢
    exact ⟨⟨k.1, hb b h⟩, k.2⟩
  | m b =>
    refine ⟨fun x h k => ?_, fun _ _ k => by simp [RelL] at k⟩
    simp only [Rel] at k ⊢
    exact ⟨⟨k.1, hb b h⟩, k.2⟩
  | y b =>
    refine ⟨fun x h k => ?_, fun _ _ k => by simp [RelL] at k⟩
    simp only [Rel] at k ⊢
    exact ⟨⟨k.1, hb b h⟩, k.2⟩
  | f g fs cs i1 i2 =>
    refine ⟨fun x h k => ?_, fun _ _ k => by simp [RelL] at k⟩
    have h : (belA n fs && belA n cs) = true := h
    rw [Bool.and_eq_true] at h
    simp only [Rel] at k ⊢
    obtain ⟨a, c, e, k1, k2⟩ := k
    exact ⟨a, c, e, i1.2 _ h.1 k1, i2.2 _ h.2 k2⟩
  | ifc t v i1 =>
    refine ⟨fun x h k => ?_, fun _ _ k => by simp [RelL] at k⟩
    have h : belA n v = true := h
    simp only [Rel] at k ⊢
    obtain ⟨y, e, k1⟩ := k
    exact ⟨y, e, i1.1 _ h k1⟩
  | nil => exact ⟨fun x _ k => by simpa [Rel, Rho.cut] using k, fun xs _ k => by simpa [RelL] using k⟩
  | cons a t i1 i2 =>
    refine ⟨fun x _ k => by simpa [Rel, Rho.cut] using k, fun xs h k => ?_⟩
    have h : (belA n a && belA n t) = true := h
    rw [Bool.and_eq_true] at h
    simp only [RelL] at k ⊢
    obtain ⟨v, vs, e, k1, k2⟩ := k
    exact ⟨v, vs, e, i1.1 _ h.1 k1, i2.2 _ h.2 k2⟩
  | agg l i1 =>
    refine ⟨fun x h k => ?_, fun _ _ k => by simp [RelL] at k⟩
    have h : belA n l = true := h
    simp only [Rel] at k ⊢
    obtain ⟨a, e, k1⟩ := k
    exact ⟨a, e, i1.2 _ h k1⟩
  | tup l i1 =>
    refine ⟨fun x h k => ?_, fun _ _ k => by simp [RelL] at k⟩
    have h : belA n l = true := h
    simp only [Rel] at k ⊢
    obtain ⟨a, e, k1⟩ := k
    exact ⟨a, e, i1.2 _ h k1⟩
  | str l => exact ⟨fun x _ k => by simp only [Rel] at k ⊢; exact k, fun _ _ k => by simp [RelL] at k⟩
  | q k j => exact ⟨fun x _ k => by simp only [Rel] at k ⊢; exact k, fun _ _ k => by simp [RelL] at k⟩
  | _ => exact ⟨fun x _ k => by simpa [Rel] using k, fun _ _ k => by simp [RelL] at k⟩
end
end Go.Proofs.YtenpbpgoglepfaaGreatDoor
namespace Go.Proofs.YtenpbpgoglepfaaGreatDoor
open Go.RowKit
set_option linter.unusedVariables false

section
variable {P : Program} {NG : Env} {B0 N : Nat} {ro : Option Nat} {C : CallE → Prop} {r : Rho} {s : St} {w : World}
theorem ex_range {ρ : Operand → Value} {o : Oper} {t : TypeId} {x : Operand} (e : o.op = .range t x) : execOp ρ o = (do pure (.value (← Instr.range t (ρ x)))) := by unfold execOp; rw [e]
theorem ex_next {ρ : Operand → Value} {o : Oper} {x : Operand} {b : Bool} (e : o.op = .next x b) : execOp ρ o = (do pure (.value (← Instr.next (ρ x) b o.type))) := by unfold execOp; rw [e]
theorem ex_entry {ρ : Operand → Value} {o : Oper} {x : Operand} (e : o.op = .entry x) : execOp ρ o = (do pure (.value (← Instr.entry (ρ x)))) := by unfold execOp; rw [e]
theorem op_val {ops : Array Oper} {k : Nat} {o : Oper} (ho : ops[k]? = some o) (hg : o.guard = none) (hd : noDf o = true) {a : Act} {v : Value} {w' : World} {K : Act → World → Prop} {Q : Exit → Act → World → Prop} (e : (execOp a.eval o).run P w = .ok (.value v) w') (h : K (a.put o.dst v) w') : wpOpIn (Wd ro) 0 P ops Q k K a w := by
  unfold wpOpIn
  rw [ho]
  simp only [Region.wanted, hg, if_true]
  refine oper_in (noDf_eq hd) ?_
  unfold Oper.wp
  rw [e]
  exact h
/-- What the first operations of a region do. -/
def OpsTo (P : Program) (NG : Env) (B0 N : Nat) (ro : Option Nat) (ops : Array Oper) (k n : Nat) (rest : List Nat) (fr : Fr) (s : St) (fr' : Fr) (s' : St) : Prop :=
  ∀ (r : Rho) (w : World) (a : Act), Base NG r → Sim B0 r s w → FrR N r fr a → ∀ (Q : Exit → Act → World → Prop),
    (∀ a' w' r', Sim B0 r' s' w' → Stp r s w r' s' w' → FrR N r' fr' a' → a'.defers = a.defers → wpOpsIn (Wd ro) 0 P ops Q rest a' w') → wpOpsIn (Wd ro) 0 P ops Q (List.range' k n ++ rest) a w
theorem snd_p {ck : Oper → I → Bool} (hck : ∀ o i, ck o i = true → SndI P NG B0 N C ro o i) {ops : Array Oper} {c : CallE} (hc : C c) (rest : List Nat) : ∀ {os : List Oper} {l : List I} (k : Nat) (fr : Fr) (s : St), okL ck N ops os l = true → (∃ more, ops.toList.drop k = os ++ more) →
    Ct (evL l c fr s) (OpsTo P NG B0 N ro ops k os.length rest fr s)
  | [], [], k, fr, s, _, _ => Ct.fin fun r w a hb hs hf Q hK => hK a w r hs (.refl r s w) hf rfl
  | o :: os, i :: l, k, fr, s, h, hd => by
    simp only [okL, Bool.and_eq_true] at h
    obtain ⟨more, hd⟩ := hd
    have hk : k < ops.toList.length := by
      rcases Nat.lt_or_ge k ops.toList.length with h | h
      · exact h
      · rw [List.drop_eq_nil_of_le h] at hd; cases hd
    rw [List.drop_eq_getElem_cons hk] at hd
    obtain ⟨e1, e2⟩ := List.cons.inj hd
    have ho : ops[k]? = some o := by
      rw [← Array.getElem?_toList, List.getElem?_eq_getElem hk, e1]
    show Ct (fun K => evI i c fr s fun fr s => evL l c fr s K) _
    refine Ct.bind (snd_g hck ho h.1 hc fr s) fun fr' s' hop => (snd_p hck hc rest (k + 1) fr' s' h.2 ⟨more, e2⟩).mono fun fr2 s2 hdo r w a hb hs hf Q hK => ?_
    rw [List.length_cons, List.range'_succ, List.cons_append, wpOpsIn_cons]
    exact hop r w a hb hs hf Q _ fun a' w' r' h1 h2 h3 h4 => hdo r' w' a' (hb.le h2.le) h1 h3 Q fun a2 w2 r2 k1 k2 k3 k4 => hK a2 w2 r2 k1 (h2.trans k2) k3 (k4.trans h4)
  | [], _ :: _, _, _, _, h, _ => by cases h
  | _ :: _, [], _, _, _, h, _ => by cases h
/-- The world has one block more, which nobody knows. -/
theorem Sim.it (h : Sim B0 r s w) {w3 : World} (hsz : w3.heap.size = w.heap.size + 1) (hk : ∀ x, x < w.heap.size → w3.heap[x]? = w.heap[x]?) (ho : w3.os = w.os) (ht : w3.tape = w.tape) (hp : w3.output = w.output) :
    Sim B0 (r.push w.heap.size 0 0) (.mk (Hp.put s.h s.n .no) (Nat.succ s.n)) w3 ∧ Stp r s w (r.push w.heap.size 0 0) (.mk (Hp.put s.h s.n .no) (Nat.succ s.n)) w3 := by
  obtain ⟨h1, h2⟩ := h.new (.cells #[] 0 (0, 0)) .no 0 trivial
  have hlow := h.low
  have hr : ∀ b, Hp.get (St.mk (Hp.put s.h s.n .no) (Nat.succ s.n)).h b ≠ .no → (r.push w.heap.size 0 0).blk b < w.heap.size := fun b hb => by
    rcases Hp.get_put s.h s.n .no b with e | ⟨_, e⟩ | ⟨_, e⟩
    · exact absurd e hb
    · exact absurd e hb
    · rw [St.h_mk, e] at hb
      obtain ⟨q1, q2⟩ := (h.ok b).lt hb
      rw [(h2.le.same b q1).2.1]
      exact q2
  refine ⟨⟨h1.n, h1.lt, by omega, fun b => ?_, h1.inj, h.ety.to (hk _ (by have := h.ety.1; omega))⟩, ⟨h2.le, ho, ht, hp, by omega, fun x hx _ => hk x hx, h2.new, h2.old⟩⟩
  by_cases hno : Hp.get (St.mk (Hp.put s.h s.n .no) (Nat.succ s.n)).h b = .no
  · rw [hno]; trivial
  · refine OkB.le (h1.ok b) (.refl _) ?_
    rw [hk _ (hr b hno), Below.heap_alloc w _ _ (hr b hno)]
theorem DfOk.more {lo : Nat} {s7 : St} {l : List Deferred} (h : DfOk lo r s w l) {bm : Nat} {es : Array MapEntry} {cl : Nat} (hm : w.heap[bm]? = some (.map es cl)) (hl : ∀ b, (Hp.get s7.h b).live → (Hp.get s.h b).live ∨ r.blk b = bm) : DfOk lo r s7 w l :=
  ⟨h.hlo, (fun d hd => by
    obtain ⟨D, h1, h0, h2, h3⟩ := h.all d hd
    refine ⟨D, h1, h0, h2, fun b hb e => ?_⟩
    rcases hl b hb with k | k
    · exact h3 b k e
    · rw [← e, k, hm] at h2
      exact absurd h2 (by simp)), h.ne⟩
theorem range_cons {n : Nat} : List.range (n + 1) = 0 :: List.range' 1 n := by rw [List.range_eq_range', List.range'_succ]
theorem range_snoc {n : Nat} : List.range (n + 1) = List.range' 0 n ++ [n] := by rw [List.range_succ, List.range_eq_range']
theorem size_cons {ops : Array Oper} {o : Oper} {os : List Oper} (e : ops.toList = o :: os) : ops.size = os.length + 1 ∧ ops[0]? = some o ∧ ops.toList.drop 1 = os := by
  refine ⟨by rw [← Array.length_toList, e]; rfl, by rw [← Array.getElem?_toList, e]; rfl, by rw [e]; rfl⟩
/-- The last round. -/
theorem rmp_last {ck : Oper → I → Bool} (hck : ∀ o i, ck o i = true → SndI P NG B0 N C ro o i) {ops1 : Array Oper} {o1 : Oper} {os1 : List Oper} (e1 : ops1.toList = o1 :: os1) (hg1 : o1.guard = none) {p1 : Operand} (hop1 : o1.op = .next p1 false) {xi : X} (hxi : xB NG N p1 xi = true) {dnx : D} (hd1 : dB o1.dst dnx = true)
    {mid : List I} (hmid : okL ck N ops1 os1 mid = true) {v : Operand} {xc : X} (hv : xB NG N v xc = true) {id1 b1 : Nat} {rest : Code} {c : CallE} (hc : C c) {fr : Fr} {a : Act} {lo : Nat} (hb : Base NG r) (hs : Sim B0 r s w) (hf : FrR N r fr a) (hdf : DfOk lo r s w a.defers) {ib : Nat} (hoff : r.off ib = 0)
    (hnext : (Instr.next (.pointer (some ⟨r.blk ib, 0, none⟩)) false o1.type).run P w = .ok (.tuple #[.bool false]) w) {K : Act → World → Prop} {Q : Exit → Act → World → Prop} (hp : Post B0 N lo r s w (rmpLast xi dnx mid xc ib c fr s) Q) :
    (Code.seq (.region id1 ops1 false) (.seq (.cond v .skip (.exit b1)) rest)).wpIn (Wd ro) 0 P (Exit.then K (Exit.inBlock b1 Q)) a w := by
  obtain ⟨z1, z2, z3⟩ := size_cons e1
  have hr := xB_rel hxi hb hf
  unfold rmpLast rmpIt at hp
  cases hx : X.ev xi fr <;> rw [hx] at hp hr <;> try exact hp.elim
  rename_i b o
  replace hp : Post B0 N lo r s w (ifB (Nat.beq b ib) (ifB (Nat.beq o 0) (evL mid c (D.put dnx (.tup (.cons (.b false) .nil)) fr) s (rmpNo xc)) .bad) .bad) Q := hp
  rcases hq : Nat.beq b ib with _ | _
  · rw [hq] at hp; exact hp.elim
  rw [hq] at hp
  rcases hq2 : Nat.beq o 0 with _ | _
  · rw [hq2] at hp; exact hp.elim
  rw [hq2] at hp
  replace hp : Post B0 N lo r s w (evL mid c (D.put dnx (.tup (.cons (.b false) .nil)) fr) s (rmpNo xc)) Q := hp
  obtain rfl := Nat.eq_of_beq_eq_true hq
  obtain rfl := Nat.eq_of_beq_eq_true hq2
  have hev : a.eval p1 = .pointer (some ⟨r.blk b, 0, none⟩) := by rw [hr.2, hoff]
  rcases snd_l hck hc 1 (D.put dnx (.tup (.cons (.b false) .nil)) fr) s hmid z3 with h | ⟨fr', s', h, hdo⟩
  · rw [h] at hp; exact hp.elim
  rw [h] at hp
  refine wpIn_seq (wpIn_region ?_)
  rw [z1, range_cons, wpOpsIn_cons]
  refine op_val z2 hg1 (by unfold noDf; rw [hop1]) (by rw [ex_next hop1, hev]; exact run_v hnext) ?_
  refine hdo r w _ hb hs (hf.put hd1 (by simp [Rel, RelL])) _ fun a' w' r' h1 h2 h3 h4 => ?_
  show (Code.seq (.cond v .skip (.exit b1)) rest).wpIn (Wd ro) 0 P (Exit.then K (Exit.inBlock b1 Q)) a' w'
  have hr2 := xB_rel hv (hb.le h2.le) h3
  unfold rmpNo at hp
  cases ht : X.ev xc fr' <;> rw [ht] at hp hr2 <;> try exact hp.elim
  rename_i t
  cases t with
  | true => exact hp.elim
  | false =>
    refine wpIn_seq (wpIn_cond_false hr2 (wpIn_exit ?_))
    show (if b1 = b1 then Q .normal a' w' else Q (.exit b1) a' w')
    rw [if_pos rfl]
    exact hp a' w' r' h1 h2 h3 (by rw [h4, put_dfr]; exact hdf.stp h2)

theorem live_no {h : Hp} {b : Nat} {b' : Nat} (hl : (Hp.get (Hp.put h b .no) b').live) : b' ≠ b ∧ Hp.get (Hp.put h b .no) b' = Hp.get h b' := by
  rcases live_put hl with ⟨_, e⟩ | e
  · rw [e] at hl; exact hl.elim
  · exact e
theorem it_post {xi : X} {ib : Nat} {fr : Fr} {k : R} {lo : Nat} {Q : Exit → Act → World → Prop} (hp : Post B0 N lo r s w (rmpIt xi ib fr k) Q) : X.ev xi fr = .p ib 0 ∧ Post B0 N lo r s w k Q := by
  unfold rmpIt at hp
  cases hx : X.ev xi fr <;> rw [hx] at hp <;> try exact hp.elim
  rename_i b o
  replace hp : Post B0 N lo r s w (ifB (Nat.beq b ib) (ifB (Nat.beq o 0) k .bad) .bad) Q := hp
  rcases hq : Nat.beq b ib with _ | _
  · rw [hq] at hp; exact hp.elim
  rw [hq] at hp
  rcases hq2 : Nat.beq o 0 with _ | _
  · rw [hq2] at hp; exact hp.elim
  rw [hq2] at hp
  rw [Nat.eq_of_beq_eq_true hq, Nat.eq_of_beq_eq_true hq2]
  exact ⟨rfl, hp⟩
/-- The check of the three heads. -/
noncomputable def okRng (P : Program) (NG N : Nat) (o : Oper) (x : X) (dit : D) : Bool := (match o.guard with | none => true | some _ => false) && dB o.dst dit && (match o.op with | .range t p => xB NG N p x && (match P.underlying t with | some (.map _ _) => true | _ => false) | _ => false)
noncomputable def okNxt (NG N : Nat) (o : Oper) (xi : X) (d : D) : Bool := (match o.guard with | none => true | some _ => false) && dB o.dst d && (match o.op with | .next p false => xB NG N p xi | _ => false)
noncomputable def okEnt (NG N : Nat) (o : Oper) (xi : X) (d : D) : Bool := (match o.guard with | none => true | some _ => false) && dB o.dst d && (match o.op with | .entry p => xB NG N p xi | _ => false)
theorem csnd_rmp {ck : Oper → I → Bool} (hck : ∀ o i, ck o i = true → SndI P NG B0 N C ro o i) {ops0 ops1 ops2 : Array Oper} {os0 os1 os2 : List Oper} {o0 o1 o2 : Oper} (e0 : ops0.toList = os0 ++ [o0]) (e1 : ops1.toList = o1 :: os1) (e2 : ops2.toList = o2 :: os2)
    {x xi xc : X} {dit dnx den : D} {pre mid post : List I} {v : Operand} (h0 : okRng P NG N o0 x dit = true) (h1 : okNxt NG N o1 xi dnx = true) (h2 : okEnt NG N o2 xi den = true) (hpre : okL ck N ops0 os0 pre = true) (hmid : okL ck N ops1 os1 mid = true) (hpost : okL ck N ops2 os2 post = true)
    (hv : xB NG N v xc = true) {id0 id1 id2 b1 b2 : Nat} {bd : Code} {q : Go.Proofs.YtenpbpgoglepfaaGreatDoor.C} (hbd : CSnd P NG B0 N C ro bd q) :
    CSnd P NG B0 N C ro (.seq (.region id0 ops0 false) (.block b1 (.loop (.seq (.region id1 ops1 false) (.seq (.cond v .skip (.exit b1)) (.block b2 (.seq (.region id2 ops2 false) bd))))))) (.rmp pre x dit xi dnx mid xc den post b1 b2 q) := by
  intro c hc fr s r w a lo hb hs hf hdf Q hp
  simp only [okRng, okNxt, okEnt, Bool.and_eq_true] at h0 h1 h2
  obtain ⟨⟨g0, d0⟩, k0⟩ := h0
  obtain ⟨⟨g1, d1⟩, k1⟩ := h1
  obtain ⟨⟨g2, d2⟩, k2⟩ := h2
  have gg0 : o0.guard = none := by cases h : o0.guard <;> simp_all
  have gg1 : o1.guard = none := by cases h : o1.guard <;> simp_all
  have gg2 : o2.guard = none := by cases h : o2.guard <;> simp_all
  split at k0
  case h_2 => cases k0
  rename_i ty p0 hop0
  split at k1
  case h_2 => cases k1
  rename_i p1 hop1
  split at k2
  case h_2 => cases k2
  rename_i p2 hop2
  simp only [Bool.and_eq_true] at k0
  obtain ⟨hx, hty⟩ := k0
  split at hty
  case h_2 => cases hty
  rename_i kt et hun
  obtain ⟨z1, z2, z3⟩ := size_cons e2
  have e : evC (.rmp pre x dit xi dnx mid xc den post b1 b2 q) c fr s = evL pre c fr s (rmpLoop x dit xi dnx mid xc den post b1 b2 (evC q) c) := rfl
  rw [e] at hp
  rcases snd_p hck hc [os0.length] 0 fr s hpre ⟨[o0], by rw [List.drop_zero, e0]⟩ with h | ⟨fr', s', h, hdo⟩
  · rw [h] at hp; exact hp.elim
  rw [h] at hp
  refine wpIn_seq (wpIn_region ?_)
  have hsz0 : ops0.size = os0.length + 1 := by rw [← Array.length_toList, e0, List.length_append]; rfl
  have ho0 : ops0[os0.length]? = some o0 := by rw [← Array.getElem?_toList, e0, List.getElem?_append_right (Nat.le_refl _), Nat.sub_self]; rfl
  rw [hsz0, range_snoc]
  refine hdo r w a hb hs hf _ fun a1 w1 r1 hs1 hst1 hf1 hd1 => ?_
  have hb1 := hb.le hst1.le
  have hp := Post.later hp hst1
  have hdf1 : DfOk lo r1 s' w1 a1.defers := by rw [hd1]; exact hdf.stp hst1
  have hx1 := xB_rel hx hb1 hf1
  unfold rmpLoop at hp
  rw [strictN_eq] at hp
  have hn : s'.n = r1.n := hs1.n
  rcases hlim : Nat.blt s'.n 65536 with _ | _
  · rw [hlim] at hp; exact hp.elim
  rw [hlim, ifB_true] at hp
  have hlim := blt_lt hlim
  -- the iterator's ghost block
  have hat : (r1.push w1.heap.size 0 0).blk s'.n = w1.heap.size ∧ (r1.push w1.heap.size 0 0).off s'.n = 0 := by rw [hn]; exact ⟨(r1.push_at _ _ _).1, (r1.push_at _ _ _).2.1⟩
  have hrit : Rel (r1.push w1.heap.size 0 0) (.p s'.n 0) (.pointer (some ⟨w1.heap.size, 0, none⟩)) := by
    refine ⟨by rw [hn]; exact r1.push_n _ _ _, ?_⟩
    rw [hat.1, hat.2]
  have enter : ∀ o : Obj, (Instr.range ty (a1.eval p0)).run P w1 = .ok (.pointer (some ⟨w1.heap.size, 0, none⟩)) (w1.alloc o) → (Code.block b1 (.loop (.seq (.region id1 ops1 false) (.seq (.cond v .skip (.exit b1)) (.block b2 (.seq (.region id2 ops2 false) bd)))))).wpIn (Wd ro) 0 P Q (a1.put o0.dst (.pointer (some ⟨w1.heap.size, 0, none⟩))) (w1.alloc o) →
      wpOpsIn (Wd ro) 0 P ops0 (Exit.then ((Code.block b1 (.loop (.seq (.region id1 ops1 false) (.seq (.cond v .skip (.exit b1)) (.block b2 (.seq (.region id2 ops2 false) bd)))))).wpIn (Wd ro) 0 P Q) Q) [os0.length] a1 w1 := fun o hr hw => by
    rw [wpOpsIn_cons]
    refine op_val ho0 gg0 (by unfold noDf; rw [hop0]) (by rw [ex_range hop0]; exact run_v hr) ?_
    exact hw
  have none_case : ∀ o : Obj, (Instr.range ty (a1.eval p0)).run P w1 = .ok (.pointer (some ⟨w1.heap.size, 0, none⟩)) (w1.alloc o) → (Instr.next (.pointer (some ⟨w1.heap.size, 0, none⟩)) false o1.type).run P (w1.alloc o) = .ok (.tuple #[.bool false]) (w1.alloc o) →
      Post B0 N lo r1 s' w1 (rmpLast xi dnx mid xc s'.n c (D.put dit (.p s'.n 0) fr') (.mk (Hp.put s'.h s'.n .no) (Nat.succ s'.n))) Q → wpOpsIn (Wd ro) 0 P ops0 (Exit.then ((Code.block b1 (.loop (.seq (.region id1 ops1 false) (.seq (.cond v .skip (.exit b1)) (.block b2 (.seq (.region id2 ops2 false) bd)))))).wpIn (Wd ro) 0 P Q) Q) [os0.length] a1 w1 := fun o hr hnx hp => by
    refine enter o hr ?_
    obtain ⟨hs2, hst2⟩ := hs1.it (w3 := w1.alloc o) (by simp) (fun y hy => Below.heap_alloc w1 o y hy) rfl rfl rfl
    refine wpIn_block (wpIn_loop_rounds 1 ?_)
    rw [roundsIn_succ]
    exact rmp_last hck e1 gg1 hop1 k1 d1 hmid hv hc (hb1.le hst2.le) hs2 ((hf1.le hst2.le).put d0 hrit) (by rw [put_dfr]; exact hdf1.stp hst2) hat.2 (by rw [hat.1]; exact hnx) (Post.later hp hst2)
  cases hX : X.ev x fr' <;> rw [hX] at hp hx1 <;> try exact hp.elim
  case nm =>
    rw [show a1.eval p0 = .map none from hx1] at none_case
    exact none_case _ (run_range_nilMap w1 ty kt et hun) (run_next_nilMap w1 _ _ _ _) hp
  case m b =>
    obtain ⟨hbh, hpv⟩ := hx1
    rw [hpv] at none_case enter
    replace hp : Post B0 N lo r1 s' w1 (GB.onMp (Hp.get s'.h b) .bad fun l => AV.isNil l
      (AV.onC l .bad fun kx t => AV.onC t .bad fun vx t2 => AV.isNil t2 .bad
        (rmpIt xi s'.n (D.put dit (.p s'.n 0) fr') (evL mid c (D.put dnx (.tup (.cons (.b true) (.cons kx (.cons vx .nil)))) (D.put dit (.p s'.n 0) fr')) (.mk (Hp.put (Hp.put s'.h s'.n .no) b .no) (Nat.succ s'.n))
          (rmpRound xi xc den post b1 b2 s'.n b l kx vx (rmpLast xi dnx mid xc s'.n c) (evC q c) c))))
      (rmpLast xi dnx mid xc s'.n c (D.put dit (.p s'.n 0) fr') (.mk (Hp.put s'.h s'.n .no) (Nat.succ s'.n)))) Q := hp
    have hok := hs1.ok b
    cases hg : Hp.get s'.h b <;> rw [hg] at hp hok <;> try exact hp.elim
    rename_i l
    obtain ⟨_, hge, es, cl, hm, hrel, hst⟩ := hok
    have hrun := run_range_map (P := P) w1 ty kt et (r1.blk b) es cl hun hm
    have hml : r1.blk b < w1.heap.size := (Array.getElem?_eq_some_iff.1 hm).1
    cases l <;> try exact hp.elim
    case nil =>
      refine none_case _ hrun ?_ hp
      have hes : es = #[] := by
        unfold RelM at hrel
        simp only [RelL] at hrel
        have : es.toList = [] := by
          cases h : es.toList with
          | nil => rfl
          | cons y ys => rw [h] at hrel; simp at hrel
        exact Array.toList_inj.1 this
      subst hes
      rcases run_next_at (P := P) (w1.alloc (.mapIter (some (r1.blk b)) cl #[] cl)) o1.type w1.heap.size (r1.blk b) cl cl #[] #[] cl (heap_alloc_new _ _) (by rw [heap_alloc_old _ _ hml, hm]) (by simp) (Nat.le_refl _) with ⟨_, h⟩ | ⟨y, hy, _⟩
      · exact h
      · simp [leftOf] at hy
    case cons kx t =>
    cases t <;> try exact hp.elim
    rename_i vx t2
    cases t2 <;> try exact hp.elim
    replace hp : Post B0 N lo r1 s' w1 (rmpIt xi s'.n (D.put dit (.p s'.n 0) fr') (evL mid c (D.put dnx (.tup (.cons (.b true) (.cons kx (.cons vx .nil)))) (D.put dit (.p s'.n 0) fr')) (.mk (Hp.put (Hp.put s'.h s'.n .no) b .no) (Nat.succ s'.n))
          (rmpRound xi xc den post b1 b2 s'.n b (.cons kx (.cons vx .nil)) kx vx (rmpLast xi dnx mid xc s'.n c) (evC q c) c))) Q := hp
    refine enter _ hrun ?_
    -- the one entry
    obtain ⟨en, hen, hk, hvv⟩ : ∃ en : MapEntry, es.toList = [en] ∧ Rel r1 kx en.key ∧ Rel r1 vx en.val := by
      unfold RelM at hrel
      simp only [RelL] at hrel
      obtain ⟨y1, l1, q1, q2, y2, l2, q3, q4, q5⟩ := hrel
      subst q5
      subst q3
      cases h : es.toList with
      | nil => rw [h] at q1; simp at q1
      | cons en more =>
        rw [h] at q1
        simp only [List.flatMap_cons, List.cons_append, List.nil_append, List.cons.injEq] at q1
        obtain ⟨r1', r2', r3'⟩ := q1
        cases more with
        | nil => exact ⟨en, rfl, by rw [r1']; exact q2, by rw [r2']; exact q4⟩
        | cons y ys => simp at r3'
    have hleft : leftOf es #[] = es := by unfold leftOf; simp
    have hes1 : es.size = 1 := by rw [← Array.length_toList, hen]; rfl
    rcases run_next_at (P := P) (w1.alloc (.mapIter (some (r1.blk b)) cl #[] cl)) o1.type w1.heap.size (r1.blk b) cl cl #[] es cl (heap_alloc_new _ _) (by rw [heap_alloc_old _ _ hml, hm]) (fun y hy => hst.1 y hy) (Nat.le_refl _) with ⟨h, _⟩ | ⟨en', hmem, wd, hwd, hnx⟩
    · rw [hleft] at h; omega
    have hen' : en' = en := by rw [hleft, hen] at hmem; simpa using hmem
    subst hen'
    generalize hw3 : ChangeMaps.setBlock wd w1.heap.size (.mapIter (some (r1.blk b)) cl (#[].push en'.born) cl) = w3 at hnx
    have hheap : w3.heap = (w1.heap.push (.mapIter (some (r1.blk b)) cl #[] cl)).setIfInBounds w1.heap.size (.mapIter (some (r1.blk b)) cl (#[].push en'.born) cl) := by
      rw [← hw3]; rcases hwd with rfl | rfl <;> rfl
    have hsz3 : w3.heap.size = w1.heap.size + 1 := by rw [hheap]; simp
    have hold3 : ∀ y, y < w1.heap.size → w3.heap[y]? = w1.heap[y]? := fun y hy => by
      rw [hheap, Array.getElem?_setIfInBounds, if_neg (by omega), Array.getElem?_push_lt hy, Array.getElem?_eq_getElem hy]
    have hit3 : w3.heap[w1.heap.size]? = some (.mapIter (some (r1.blk b)) cl (#[].push en'.born) cl) := by
      rw [hheap, Array.getElem?_setIfInBounds, if_pos rfl]; simp
    obtain ⟨hs2, hst2⟩ := hs1.it (w3 := w3) hsz3 hold3 (by rw [← hw3]; rcases hwd with rfl | rfl <;> rfl) (by rw [← hw3]; rcases hwd with rfl | rfl <;> rfl) (by rw [← hw3]; rcases hwd with rfl | rfl <;> rfl)
    have hb2 := hb1.le hst2.le
    have hs3 := hs2.drop b
    have hf2 := (hf1.le hst2.le).put d0 hrit
    have hp := Post.later hp hst2
    obtain ⟨hxit, hp⟩ := it_post hp
    have hev : (a1.put o0.dst (.pointer (some ⟨w1.heap.size, 0, none⟩))).eval p1 = .pointer (some ⟨w1.heap.size, 0, none⟩) := by
      have := xB_rel k1 hb2 hf2
      rw [hxit] at this
      rw [this.2, hat.1, hat.2]
    have hbs : b < s'.n := by rw [hn]; exact hs1.lt b hbh
    have hblk2 : (r1.push w1.heap.size 0 0).blk b = r1.blk b := (hst2.le.same b hbh).2.1
    -- what the hidden state keeps
    have hsub : ∀ b', Hp.get (St.mk (Hp.put (Hp.put s'.h s'.n .no) b .no) (Nat.succ s'.n)).h b' = .no ∨ Hp.get (St.mk (Hp.put (Hp.put s'.h s'.n .no) b .no) (Nat.succ s'.n)).h b' = Hp.get (St.mk (Hp.put s'.h s'.n .no) (Nat.succ s'.n)).h b' := fun b' => by
      rcases Hp.get_put (Hp.put s'.h s'.n .no) b .no b' with e | ⟨_, e⟩ | ⟨_, e⟩
      · exact .inl e
      · exact .inl e
      · exact .inr e
    have hlive3 : ∀ b', (Hp.get (Hp.put (Hp.put s'.h s'.n .no) b .no) b').live → b' ≠ b ∧ (Hp.get s'.h b').live := fun b' hl => by
      obtain ⟨n1, e1⟩ := live_no hl
      rw [e1] at hl
      obtain ⟨_, e2⟩ := live_no hl
      rw [e2] at hl
      exact ⟨n1, hl⟩
    have hno3 : Hp.get (Hp.put (Hp.put s'.h s'.n .no) b .no) b = .no := by
      rcases Hp.get_put (Hp.put s'.h s'.n .no) b .no b with e | ⟨_, e⟩ | ⟨h, _⟩
      · exact e
      · exact e
      · exact absurd rfl h
    have hnlit : ∀ b', (Hp.get (St.mk (Hp.put (Hp.put s'.h s'.n .no) b .no) (Nat.succ s'.n)).h b').live → (r1.push w1.heap.size 0 0).blk b' ≠ w1.heap.size := fun b' hl => by
      obtain ⟨_, hl⟩ := hlive3 b' hl
      obtain ⟨q1, q2⟩ := (hs1.ok b').lt (live_ne hl)
      rw [(hst2.le.same b' q1).2.1]
      omega
    have hnlm : ∀ b', (Hp.get (St.mk (Hp.put (Hp.put s'.h s'.n .no) b .no) (Nat.succ s'.n)).h b').live → (r1.push w1.heap.size 0 0).blk b' ≠ r1.blk b := fun b' hl e => by
      obtain ⟨h1, hl⟩ := hlive3 b' hl
      obtain ⟨q1, q2⟩ := (hs1.ok b').lt (live_ne hl)
      rw [(hst2.le.same b' q1).2.1] at e
      exact h1 (hs1.inj b' b hl (by rw [hg]; trivial) e)
    have hmw : w3.heap[r1.blk b]? = some (.map es cl) := by rw [hold3 _ hml, hm]
    generalize hS3 : St.mk (Hp.put (Hp.put s'.h s'.n .no) b .no) (Nat.succ s'.n) = s3 at hs3 hp hsub hnlit hnlm
    have hno3' : Hp.get s3.h b = .no := by rw [← hS3]; exact hno3
    replace hs3 : Sim B0 (r1.push w1.heap.size 0 0) s3 w3 := by rw [← hS3]; exact hs2.drop b
    have kept : ∀ {r' : Rho} {s4 : St} {w4 : World}, Stp (r1.push w1.heap.size 0 0) s3 w3 r' s4 w4 → w4.heap[w1.heap.size]? = some (.mapIter (some (r1.blk b)) cl (#[].push en'.born) cl) ∧ w4.heap[r1.blk b]? = some (.map es cl) := fun k =>
      ⟨(k.keep _ (by omega) hnlit).trans hit3, (k.keep _ (by omega) hnlm).trans hmw⟩
    have back : ∀ {r' : Rho} {s6 : St} {w6 : World}, Sim B0 r' s6 w6 → Stp (r1.push w1.heap.size 0 0) s3 w3 r' s6 w6 → Sim B0 r' (.mk (Hp.put s6.h b (.mp (.cons kx (.cons vx .nil)))) s6.n) w6 ∧ Stp (r1.push w1.heap.size 0 0) (.mk (Hp.put s'.h s'.n .no) (Nat.succ s'.n)) w3 r' (.mk (Hp.put s6.h b (.mp (.cons kx (.cons vx .nil)))) s6.n) w6 := fun {r' s6 w6} k1 k2 => by
      refine hs2.frame hsub k1 k2 rfl fun b' => ?_
      rcases Hp.get_put s6.h b (.mp (.cons kx (.cons vx .nil))) b' with e | ⟨rfl, e⟩ | ⟨_, e⟩
      · exact .inl e
      · right; right
        refine ⟨?_, hno3'⟩
        exact e.trans (by rw [St.h_mk, Hp.get_put_lt _ hlim, if_neg (by omega), hg])
      · exact .inr (.inl e)
    refine wpIn_block (wpIn_loop_rounds 2 ?_)
    rw [roundsIn_succ]
    -- the first round
    obtain ⟨y1, y2, y3⟩ := size_cons e1
    rcases snd_l hck hc 1 (D.put dnx (.tup (.cons (.b true) (.cons kx (.cons vx .nil)))) (D.put dit (.p s'.n 0) fr')) s3 hmid y3 with h | ⟨fr4, s4, h, hdo4⟩
    · rw [h] at hp; exact hp.elim
    rw [h] at hp
    refine wpIn_seq (wpIn_region ?_)
    rw [y1, range_cons, wpOpsIn_cons]
    refine op_val y2 gg1 (by unfold noDf; rw [hop1]) (by rw [ex_next hop1, hev]; exact run_v hnx) ?_
    refine hdo4 _ _ _ hb2 hs3 (hf2.put d1 (by simp only [Rel, RelL]; exact ⟨_, rfl, _, _, rfl, rfl, _, _, rfl, hk.le hst2.le, _, _, rfl, hvv.le hst2.le, rfl⟩)) _ fun a4 w4 r4 hs4 hst4 hf4 hd4 => ?_
    show (Code.seq (.cond v .skip (.exit b1)) (.block b2 (.seq (.region id2 ops2 false) bd))).wpIn (Wd ro) 0 P _ a4 w4
    have hb4 := hb2.le hst4.le
    have hr4 := xB_rel hv hb4 hf4
    unfold rmpRound at hp
    cases ht : X.ev xc fr4 <;> rw [ht] at hp hr4 <;> try exact hp.elim
    rename_i t
    cases t with
    | false => exact hp.elim
    | true =>
    replace hp : Post B0 N lo (r1.push w1.heap.size 0 0) (.mk (Hp.put s'.h s'.n .no) (Nat.succ s'.n)) w3 (rmpIt xi s'.n fr4 (rmpBack b1 b (.cons kx (.cons vx .nil)) (rmpLast xi dnx mid xc s'.n c) (onX (evL post c (D.put den (.tup (.cons kx (.cons vx .nil))) fr4) s4 (evC q c)) b2))) Q := hp
    obtain ⟨hxit4, hp⟩ := it_post hp
    refine wpIn_seq (wpIn_cond_true hr4 (wpIn_skip ?_))
    show (Code.block b2 (.seq (.region id2 ops2 false) bd)).wpIn (Wd ro) 0 P _ a4 w4
    refine wpIn_block (wpIn_seq (wpIn_region ?_))
    have hat4 : r4.blk s'.n = w1.heap.size ∧ r4.off s'.n = 0 := by
      obtain ⟨_, q1, q2, _⟩ := hst4.le.same s'.n (by rw [hn]; exact r1.push_n _ _ _)
      rw [q1, q2]; exact hat
    have hev4 : a4.eval p2 = .pointer (some ⟨w1.heap.size, 0, none⟩) := by
      have := xB_rel k2 hb4 hf4
      rw [hxit4] at this
      rw [this.2, hat4.1, hat4.2]
    rcases snd_l hck hc 1 (D.put den (.tup (.cons kx (.cons vx .nil))) fr4) s4 hpost z3 with h5 | ⟨fr5, s5, h5, hdo5⟩
    · rw [h5] at hp; exact hp.elim
    rw [h5] at hp
    rw [z1, range_cons, wpOpsIn_cons]
    obtain ⟨kit4, kmp4⟩ := kept hst4
    refine op_val z2 gg2 (by unfold noDf; rw [hop2]) (by rw [ex_entry hop2, hev4]; exact run_v (run_entry_at w4 w1.heap.size (r1.blk b) cl #[] es cl en' kit4 kmp4 (by rw [hen]; exact List.mem_singleton.2 rfl) hst.2.1)) ?_
    refine hdo5 _ _ _ hb4 hs4 (hf4.put d2 (by simp only [Rel, RelL]; exact ⟨_, rfl, _, _, rfl, hk.le (hst2.le.trans hst4.le), _, _, rfl, hvv.le (hst2.le.trans hst4.le), rfl⟩)) _ fun a5 w5 r5 hs5 hst5 hf5 hd5 => ?_
    show bd.wpIn (Wd ro) 0 P _ a5 w5
    have hst35 := hst4.trans hst5
    have hdf2 : DfOk lo (r1.push w1.heap.size 0 0) (.mk (Hp.put s'.h s'.n .no) (Nat.succ s'.n)) w3 a5.defers := by
      rw [hd5, put_dfr, hd4, put_dfr, put_dfr]; exact hdf1.stp hst2
    have hdf5 : DfOk lo r5 s5 w5 a5.defers := by
      refine DfOk.stp (r := r1.push w1.heap.size 0 0) (s := s3) (w := w3) ⟨hdf2.hlo, fun d hd => ?_, hdf2.ne⟩ hst35
      obtain ⟨D, x1, x0, x2, x3⟩ := hdf2.all d hd
      refine ⟨D, x1, x0, x2, fun b' hl => x3 b' ?_⟩
      rcases hsub b' with e | e
      · rw [e] at hl; exact hl.elim
      · rw [← e]; exact hl
    have hDf : ∀ {r6 : Rho} {s6 : St} {w6 : World} {l6 : List Deferred}, Stp (r1.push w1.heap.size 0 0) s3 w3 r6 s6 w6 → DfOk lo r6 s6 w6 l6 → DfOk lo r6 (.mk (Hp.put s6.h b (.mp (.cons kx (.cons vx .nil)))) s6.n) w6 l6 := fun {r6 s6 w6 l6} k1 k2 => by
      refine k2.more (kept k1).2 fun b' hl => ?_
      rcases live_put hl with ⟨rfl, _⟩ | ⟨_, e⟩
      · right
        rw [(k1.le.same b' (by rw [← hn] at *; exact .inl hbh)).2.1, hblk2]
      · left; rw [St.h_mk, e] at hl; exact hl
    refine hbd c hc fr5 s5 r5 w5 a5 lo (hb4.le hst5.le) hs5 hf5 hdf5 _ ?_
    generalize evC q c fr5 s5 = out at hp
    -- the second round
    have second : ∀ fr6 s6, Post B0 N lo (r1.push w1.heap.size 0 0) (.mk (Hp.put s'.h s'.n .no) (Nat.succ s'.n)) w3 (rmpLast xi dnx mid xc s'.n c fr6 (.mk (Hp.put s6.h b (.mp (.cons kx (.cons vx .nil)))) s6.n)) Q → ∀ a6 w6 r6, Sim B0 r6 s6 w6 → Stp r5 s5 w5 r6 s6 w6 → FrR N r6 fr6 a6 → DfOk lo r6 s6 w6 a6.defers →
        Code.roundsIn (Wd ro) 0 P (.seq (.region id1 ops1 false) (.seq (.cond v .skip (.exit b1)) (.block b2 (.seq (.region id2 ops2 false) bd)))) (Exit.inBlock b1 Q) 1 a6 w6 := fun fr6 s6 hp a6 w6 r6 q1 q2 q3 q4 => by
      have hst36 := hst35.trans q2
      obtain ⟨kit6, kmp6⟩ := kept hst36
      obtain ⟨v1, v2⟩ := back q1 hst36
      have hat6 : r6.blk s'.n = w1.heap.size ∧ r6.off s'.n = 0 := by
        obtain ⟨_, u1, u2, _⟩ := hst36.le.same s'.n (by rw [hn]; exact r1.push_n _ _ _)
        rw [u1, u2]; exact hat
      rw [roundsIn_succ]
      refine rmp_last hck e1 gg1 hop1 k1 d1 hmid hv hc (hb2.le v2.le) v1 q3 (hDf hst36 q4) hat6.2 ?_ (Post.later hp v2)
      rw [hat6.1]
      rcases run_next_at (P := P) w6 o1.type w1.heap.size (r1.blk b) cl cl (#[].push en'.born) es cl kit6 kmp6 (fun y hy => hst.1 y hy) (Nat.le_refl _) with ⟨_, h⟩ | ⟨y, hy, _⟩
      · exact h
      · exfalso
        simp only [leftOf, Array.toList_filter, List.mem_filter, hen, List.mem_singleton] at hy
        obtain ⟨rfl, hy⟩ := hy
        simp at hy
    cases out with
    | bad => exact hp.elim
    | nrm fr6 s6 => exact second fr6 s6 hp
    | rt fr6 s6 =>
      intro a6 w6 r6 q1 q2 q3 q4
      have hst36 := hst35.trans q2
      obtain ⟨v1, v2⟩ := back q1 hst36
      exact hp a6 w6 r6 v1 v2 q3 (hDf hst36 q4)
    | ex id fr6 s6 =>
      intro a6 w6 r6 q1 q2 q3 q4
      have hst36 := hst35.trans q2
      obtain ⟨v1, v2⟩ := back q1 hst36
      show (if id = b2 then _ else _)
      have eX : onX (.ex id fr6 s6) b2 = ifB (Nat.beq id b2) (.nrm fr6 s6) (.ex id fr6 s6) := rfl
      rw [eX] at hp
      rcases hj : Nat.beq id b2 with _ | _
      · rw [hj] at hp
        rw [if_neg (fun e => by rw [e, Nat.beq_refl] at hj; cases hj)]
        replace hp : Post B0 N lo (r1.push w1.heap.size 0 0) (.mk (Hp.put s'.h s'.n .no) (Nat.succ s'.n)) w3 (ifB (Nat.beq id b1) (.nrm fr6 (.mk (Hp.put s6.h b (.mp (.cons kx (.cons vx .nil)))) s6.n)) (.ex id fr6 (.mk (Hp.put s6.h b (.mp (.cons kx (.cons vx .nil)))) s6.n))) Q := hp
        show (if id = b1 then Q .normal a6 w6 else Q (.exit id) a6 w6)
        rcases hj1 : Nat.beq id b1 with _ | _
        · rw [hj1] at hp
          rw [if_neg (fun e => by rw [e, Nat.beq_refl] at hj1; cases hj1)]
          exact hp a6 w6 r6 v1 v2 q3 (hDf hst36 q4)
        · rw [hj1] at hp
          rw [if_pos (Nat.eq_of_beq_eq_true hj1)]
          exact hp a6 w6 r6 v1 v2 q3 (hDf hst36 q4)
      · rw [hj] at hp
        rw [if_pos (Nat.eq_of_beq_eq_true hj)]
        exact second fr6 s6 hp a6 w6 r6 q1 q2 q3 q4
end
end Go.Proofs.YtenpbpgoglepfaaGreatDoor
namespace Go.Proofs.YtenpbpgoglepfaaGreatDoor
open Go.RowKit
set_option linter.unusedVariables false

section
variable {P : Program} {NG : Env} {B0 N : Nat}
/-- Code that always fails stands for whatever. -/
noncomputable def isBad : C → Bool
  | .ops (.nlc (.k .np) _ :: _) => true
  | _ => false
/-- The check of code; ckD: of regions that draw their order; top: in no round. -/
noncomputable def ckC (P : Program) (NG : Nat) (mt : Mt) (ckD : Nat → Array Oper → C → Bool) : Bool → Nat → Code → C → Bool
  | _, _, .skip, .skip => true
  | _, N, .region _ ops false, .ops l => okL (ckJ P NG N mt) N ops ops.toList l
  | _, N, .region _ ops true, .drw l => ckD N ops (.drw l)
  | _, N, .region _ ops true, .drf l => ckD N ops (.drf l)
  | top, N, .seq a b, .seq c d => ckC P NG mt ckD top N a c && ckC P NG mt ckD top N b d
  | top, N, .cond v a b, .cnd x c d => xB NG N v x && (ckC P NG mt ckD top N a c && ckC P NG mt ckD top N b d)
  | top, N, .block i a, .blk j c => Nat.beq i j && ckC P NG mt ckD top N a c
  | top, N, .loop a, .loop c => ckC P NG mt ckD top N a c
  | _, _, .exit i, .ex j => Nat.beq i j
  | _, _, .ret, .ret => true
  | top, N, .rangeFunc gop ps asg bd, .rfn x psD asC bdC g nt itC => top && (xB NG N gop x && (psB ps.toList psD && (ckC P NG mt ckD false N asg asC && (ckC P NG mt ckD false N bd bdC && (match P.funcs[g]? with
    | some fng => (match fng.body with
      | some itcode => !(fng.name == "runtime.NumGoroutine") && (fng.results.toList.isEmpty && (Nat.ble nt 16 && (Nat.ble nt fng.ntmps && ckC P NG mt ckD false fng.ntmps itcode itC)))
      | none => false)
    | none => false)))))
  | top, N, .seq (.region _ ops0 false) (.block i (.loop (.seq (.region _ ops1 false) (.seq (.cond v .skip (.exit i')) (.block j (.seq (.region _ ops2 false) bd)))))), .rmp pre x dit xi dnx mid xc den post b1 b2 q => Nat.beq i b1 && (Nat.beq i' b1 && (Nat.beq j b2 && (xB NG N v xc && ((match ops0.toList.reverse with | o :: os => okRng P NG N o x dit && okL (ckJ P NG N mt) N ops0 os.reverse pre | [] => false) && ((match ops1.toList with | o :: os => okNxt NG N o xi dnx && okL (ckJ P NG N mt) N ops1 os mid | [] => false) && ((match ops2.toList with | o :: os => okEnt NG N o xi den && okL (ckJ P NG N mt) N ops2 os post | [] => false) && ckC P NG mt ckD top N bd q))))))
  | _, _, _, c => isBad c
theorem snd_ckC {mt : Mt} (hk : Kn P mt) {ckD : Nat → Array Oper → C → Bool} (hD : ∀ (E : Env) (ro : Option Nat) N id ops l, E.ng = NG.ng → ckD N ops l = true → CSnd P E B0 N (CAll P E B0) ro (.region id ops true) l) :
    ∀ {top : Bool} {N : Nat} {x : Code} {c : C}, ckC P NG mt ckD top N x c = true → ∀ (E : Env) (ro : Option Nat), E.ng = NG.ng → (top = true → ro = none) → CSnd P E B0 N (CAll P E B0) ro x c := by
  intro top N x c h
  fun_induction ckC P NG.ng mt ckD top N x c with
  | case1 => exact fun E ro _ _ => csnd_skip
  | case2 top N id ops l => exact fun E ro hE _ => csnd_ops (fun o i h => snd_cj hk h) (by rw [hE]; exact h)
  | case3 top N id ops l => exact fun E ro hE _ => hD E ro N id ops _ hE h
  | case4 top N id ops l => exact fun E ro hE _ => hD E ro N id ops _ hE h
  | case5 top N a b c d ih1 ih2 =>
    simp only [Bool.and_eq_true] at h
    exact fun E ro hE ht => csnd_seq (ih1 h.1 E ro hE ht) (ih2 h.2 E ro hE ht)
  | case6 top N v a b x c d ih1 ih2 =>
    simp only [Bool.and_eq_true] at h
    exact fun E ro hE ht => csnd_cnd (by rw [hE]; exact h.1) (ih1 h.2.1 E ro hE ht) (ih2 h.2.2 E ro hE ht)
  | case7 top N i a j c ih =>
    simp only [Bool.and_eq_true] at h
    obtain rfl := Nat.eq_of_beq_eq_true h.1
    exact fun E ro hE ht => csnd_blk (ih h.2 E ro hE ht)
  | case8 top N a c ih => exact fun E ro hE ht => csnd_loop (ih h E ro hE ht)
  | case9 top N i j =>
    obtain rfl := Nat.eq_of_beq_eq_true h
    exact fun E ro _ _ => csnd_ex
  | case10 => exact fun E ro _ _ => csnd_ret
  | case11 top N gop ps asg bd x psD asC bdC g nt itC ih1 ih2 ih3 =>
    simp only [Bool.and_eq_true] at h
    obtain ⟨h0, h1, h2, h3, h4, h5⟩ := h
    split at h5
    case h_2 => cases h5
    rename_i fng hf
    split at h5
    case h_2 => cases h5
    rename_i itcode hb
    simp only [Bool.and_eq_true, Bool.not_eq_true'] at h5
    obtain ⟨h5, h6, h7, h8, h9⟩ := h5
    intro E ro hE ht
    rw [ht h0]
    exact csnd_rfn (by rw [hE]; exact h1) hf hb (by simpa using h5) (by simpa using h6) (Nat.le_of_ble_eq_true h7) (Nat.le_of_ble_eq_true h8) h2 (fun r1 l => ih1 h3 _ _ hE (fun e => (by cases e))) (fun r1 l => ih2 h4 _ _ hE (fun e => (by cases e))) (fun r1 => ih3 _ _ h9 _ _ hE (fun e => (by cases e)))
  | case12 top N id0 ops0 i id1 ops1 v i' j id2 ops2 bd pre x dit xi dnx mid xc den post b1 b2 q ih =>
    simp only [Bool.and_eq_true] at h
    obtain ⟨h1, h2, h3, h4, h5, h6, h7, h8⟩ := h
    obtain rfl := Nat.eq_of_beq_eq_true h1
    obtain rfl := Nat.eq_of_beq_eq_true h2
    obtain rfl := Nat.eq_of_beq_eq_true h3
    split at h5
    case h_2 => cases h5
    rename_i o0 rs0 e0
    split at h6
    case h_2 => cases h6
    rename_i o1 os1 e1
    split at h7
    case h_2 => cases h7
    rename_i o2 os2 e2
    simp only [Bool.and_eq_true] at h5 h6 h7
    have e0' : ops0.toList = rs0.reverse ++ [o0] := by rw [← List.reverse_reverse ops0.toList, e0, List.reverse_cons]
    intro E ro hE ht
    rw [← hE] at h4 h5 h6 h7
    exact csnd_rmp (fun o i h => snd_cj hk h) e0' e1 e2 h5.1 h6.1 h7.1 h5.2 h6.2 h7.2 h4 (ih h8 E ro hE ht)
  | case13 top N x c =>
    unfold isBad at h
    split at h
    · exact fun E ro _ _ => csnd_bad
    · cases h
end
end Go.Proofs.YtenpbpgoglepfaaGreatDoor
namespace Go.Proofs.YtenpbpgoglepfaaGreatDoor
open Go.RowKit
set_option linter.unusedVariables false

section
variable {P : Program} {NG : Env} {B0 N : Nat}
/-- The check of a function. -/
noncomputable def ckF (P : Program) (NG : Nat) (mt : Mt) (ckD : Nat → Array Oper → C → Bool) (fn : Func) : Fn → Bool
  | .x nt body res => (match fn.body with | some code => ckC P NG mt ckD true fn.ntmps code body | none => false) && Nat.ble nt 16 && Nat.ble nt fn.ntmps && ckRVs P fn.ntmps fn.results.toList res && !(fn.name == "runtime.NumGoroutine")
  | _ => false
/-- What is known of a row of the table. -/
def FnOk (P : Program) (NG : Env) (B0 : Nat) (g : Nat) (f : Fn) : Prop := ∀ ih, CAll P NG B0 ih → ∀ ar s v s', runFn f ih ar s = .ok v s' → ∀ (r : Rho) (w : World) (args : Array Value), Base NG r → Sim B0 r s w → RelL r ar args.toList →
  CallsF P g args w fun x w' => ∃ r', Rel r' v x ∧ Sim B0 r' s' w' ∧ Stp r s w r' s' w'
theorem fnOk_no {g : Nat} : FnOk P NG B0 g .no := fun ih _ ar s v s' h => by cases h
theorem fnOk_x {mt : Mt} (hk : Kn P mt) {ckD : Nat → Array Oper → C → Bool} (hD : ∀ (E : Env) (ro : Option Nat) N id ops l, E.ng = NG.ng → ckD N ops l = true → CSnd P E B0 N (CAll P E B0) ro (.region id ops true) l) {g : Nat} {fn : Func} (hg : P.funcs[g]? = some fn) {f : Fn} (h : ckF P NG mt ckD fn f = true) : FnOk P NG B0 g f := fun ih hih ar s v s' hrun r w args hb hs hr => by
  cases f with
  | pr _ => cases h
  | no => cases h
  | x nt body res =>
    simp only [ckF, Bool.and_eq_true, Bool.not_eq_true'] at h
    obtain ⟨⟨⟨⟨hc, h16⟩, hnt⟩, hres⟩, hname⟩ := h
    have h16 := Nat.le_of_ble_eq_true h16
    have hnt := Nat.le_of_ble_eq_true hnt
    split at hc
    case h_2 => cases hc
    rename_i code hbody
    have e : runFn (.x nt body res) ih ar s = ifB (Nat.ble (lenL ar) nt) (finE res (evC body ih (inFr ar) s)) .bad := rfl
    rw [e] at hrun
    rcases hle : Nat.ble (lenL ar) nt with _ | _
    · rw [hle] at hrun; cases hrun
    rw [hle] at hrun
    have hrun : finE res (evC body ih (inFr ar) s) = .ok v s' := hrun
    have hle := Nat.le_of_ble_eq_true hle
    refine .inl ⟨?_, (callsIn_wide (n := 0)).1 (callsIn_of_wp_marks (F := Wd none) hg hbody trivial ?_ rfl)⟩
    · have hn : ¬ fn.name = "runtime.NumGoroutine" := by simpa using hname
      unfold callFunc
      simp [hg, hn, hbody]
    · refine snd_ckC hk hD hc NG none rfl (fun _ => rfl) ih hih (inFr ar) s r w _ w.heap.size hb hs (frame_in hr hle h16 hnt) (DfOk.nil (Nat.le_refl _)) _ ?_
      have fin : ∀ fr2 s2, evRVs res fr2 s2 (fun l => .ok (oneOr l) s2) = .ok v s' → ∀ (a' : Act) (w' : World) (r' : Rho), Sim B0 r' s2 w' → Stp r s w r' s2 w' → FrR fn.ntmps r' fr2 a' → DfOk w.heap.size r' s2 w' a'.defers →
          LeavesInM (Wd none) 0 P fn a'.tmps (fun e w' => ∃ x, e = .returned x ∧ ∃ r', Rel r' v x ∧ Sim B0 r' s' w' ∧ Stp r s w r' s' w') a'.defers .returning w' := fun fr2 s2 he a' w' r' h1 h2 h3 h4 => by
        rcases rvs_ok (B0 := B0) (fr := fr2) (s := s2) hres with k1 | ⟨av, k1, k2⟩
        · rw [k1] at he; cases he
        · rw [k1] at he
          cases he
          refine leaves_df h4 h1 h2 fun w'' g1 g2 => ?_
          obtain ⟨us, u1, u2⟩ := k2 r' w'' a' g1 h3
          exact ⟨_, results_ok u1, _, rfl, r', oneOr_rel u2, g1, g2⟩
      generalize evC body ih (inFr ar) s = out at hrun
      cases out with
      | bad => cases hrun
      | nrm fr2 s2 => exact fun a' w' r' h1 h2 h3 h4 => fin fr2 s2 hrun a' w' r' h1 h2 h3 h4
      | ex id fr2 s2 => cases hrun
      | rt fr2 s2 => exact fun a' w' r' h1 h2 h3 h4 => fin fr2 s2 hrun a' w' r' h1 h2 h3 h4
/-- The whole table. -/
theorem evF_ok {tab : Nat → Fn} (h : ∀ g, FnOk P NG B0 g (tab g)) (hy : tab yN = .no) : ∀ n, CAll P NG B0 (evF tab n)
  | 0 => ⟨fun g ar s v s' _ e => (by cases e), fun b ar s v s' e => (by cases e)⟩
  | n + 1 => ⟨fun g ar s v s' _ e r w args hb hs hr => h g (evF tab n) (evF_ok h hy n) ar s v s' e r w args hb hs hr, fun b ar s v s' e => by
    have e2 : evF tab (n + 1) yN (.cons (.y b) ar) s = runFn (tab yN) (evF tab n) (.cons (.y b) ar) s := rfl
    rw [e2, hy] at e
    cases e⟩
end
end Go.Proofs.YtenpbpgoglepfaaGreatDoor
