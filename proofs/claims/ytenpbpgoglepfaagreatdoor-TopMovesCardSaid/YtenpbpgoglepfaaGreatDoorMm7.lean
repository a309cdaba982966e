/- Rows of our own: errors.Is over the errors of package api. No condition. -/
import Derived.Test.YtenpbpgoglepfaaGreatDoorMm4
import Derived.Test.YtenpbpgoglepfaaGreatDoorMm6
import Derived.Lib.Bytealg
namespace Go.Proofs.YtenpbpgoglepfaaGreatDoor
open Go.RowKit
set_option linter.unusedVariables false

/-- errors.Is: nil, or one of the program's own errors (which stand in the first blocks). -/
noncomputable def prIs : CallE → AV → St → RC := fun _ ar s => match ar with
  | .cons .ni (.cons (.ifc t (.p _ _)) .nil) => ifB (Nat.beq t 465) (.ok (.b false) s) .bad
  | .cons (.ifc t (.p a 0)) (.cons (.ifc t' (.p b 0)) .nil) => ifB (Nat.beq t 465 && (Nat.beq t' 465 && (Nat.blt a eqN && (Nat.blt b eqN && (Nat.ble eqL a && Nat.ble eqL b)))))
    (match Hp.get s.h a, Hp.get s.h b with
      | .ro _, .ro _ => .ok (.b (Nat.beq a b)) s
      | _, _ => .bad) .bad
  | _ => .bad
theorem ent_of {P : Program} {g : FuncId} {fn : Func} {code : Code} (hg : P.funcs[g]? = some fn) (hn : (fn.name == "runtime.NumGoroutine") = false) (hb : fn.body = some code) (args : Array Value) (w : World) : (callFunc g args).run P w = .ok (.enter g args) w := by
  have hn : ¬ fn.name = "runtime.NumGoroutine" := by simpa using hn
  unfold callFunc
  simp [hg, hn, hb]
theorem args_two {r : Rho} {x y : AV} {args : Array Value} (h : RelL r (.cons x (.cons y .nil)) args.toList) : ∃ u v, args = #[u, v] ∧ Rel r x u ∧ Rel r y v := by
  simp only [RelL] at h
  obtain ⟨u, _, e1, h1, v, _, e2, h2, e3⟩ := h
  subst e3 e2
  exact ⟨u, v, by rw [← Array.toList_inj, e1], h1, h2⟩
theorem args_one {r : Rho} {x : AV} {args : Array Value} (h : RelL r (.cons x .nil) args.toList) : ∃ u, args = #[u] ∧ Rel r x u := by
  simp only [RelL] at h
  obtain ⟨u, _, e1, h1, e2⟩ := h
  subst e2
  exact ⟨u, by rw [← Array.toList_inj, e1], h1⟩
theorem prIs_ok {NG : Env} {B0 : Nat} : FnOk Tryz.prog NG B0 114 (.pr prIs) := fun ih hih ar s v s' hrun r w args hb hs hr => by
  have hent : ∀ args w, (callFunc 114 args).run Tryz.prog w = .ok (.enter 114 args) w := ent_of Tryz.func114 (by kernel_rfl) rfl
  replace hrun : prIs ih ar s = .ok v s' := hrun
  unfold prIs at hrun
  split at hrun
  · rename_i t b o
    rcases ht : Nat.beq t 465 with _ | _
    · rw [ht] at hrun; cases hrun
    rw [ht] at hrun
    cases hrun
    obtain rfl := Nat.eq_of_beq_eq_true ht
    obtain ⟨u, q, rfl, h1, h2⟩ := args_two hr
    simp only [Rel] at h1 h2
    obtain ⟨y, rfl, _, rfl⟩ := h2
    subst h1
    exact .inl ⟨hent _ _, (is_nil _ w).mono fun e w' ⟨he, hw⟩ => ⟨_, he, r, rfl, hw ▸ hs, hw ▸ .refl r s w⟩⟩
  · rename_i t a t' b
    rcases ht : (Nat.beq t 465 && (Nat.beq t' 465 && (Nat.blt a eqN && (Nat.blt b eqN && (Nat.ble eqL a && Nat.ble eqL b))))) with _ | _
    · rw [ht] at hrun; cases hrun
    rw [ht, ifB_true] at hrun
    simp only [Bool.and_eq_true] at ht
    obtain ⟨t1, t2, t3, t4, t5, t6⟩ := ht
    obtain rfl := Nat.eq_of_beq_eq_true t1
    obtain rfl := Nat.eq_of_beq_eq_true t2
    have t3 := blt_lt t3
    have t4 := blt_lt t4
    have t5 := Nat.le_of_ble_eq_true t5
    have t6 := Nat.le_of_ble_eq_true t6
    split at hrun
    case h_2 => cases hrun
    rename_i c1 c2 e1 e2
    cases hrun
    obtain ⟨u, q, rfl, h1, h2⟩ := args_two hr
    simp only [Rel] at h1 h2
    obtain ⟨_, rfl, _, rfl⟩ := h1
    obtain ⟨_, rfl, _, rfl⟩ := h2
    refine .inl ⟨hent _ _, ?_⟩
    rcases hab : Nat.beq a b with _ | _
    · have hne : a ≠ b := fun e => by rw [e, Nat.beq_refl] at hab; cases hab
      have k1 := hs.ok a
      have k2 := hs.ok b
      rw [e1] at k1
      rw [e2] at k2
      obtain ⟨_, _, ca, ta, k1⟩ := k1
      obtain ⟨_, _, cb, tb, k2⟩ := k2
      exact (is_other _ _ ca cb ta tb w (fun e => hne (hb.inj a b t3 t4 t5 t6 (by simpa using congrArg Addr.block e) (by simpa using congrArg Addr.off e))) k1 k2).mono fun e w' ⟨he, hw⟩ => ⟨_, he, r, rfl, hw ▸ hs, hw ▸ .refl r s w⟩
    · obtain rfl := Nat.eq_of_beq_eq_true hab
      exact (is_same _ w).mono fun e w' ⟨he, hw⟩ => ⟨_, he, r, rfl, hw ▸ hs, hw ▸ .refl r s w⟩
  · cases hrun
end Go.Proofs.YtenpbpgoglepfaaGreatDoor
namespace Go.Proofs.YtenpbpgoglepfaaGreatDoor
open Go.RowKit
set_option linter.unusedVariables false

noncomputable def idxOf (c : Nat) : List Nat → Int
  | [] => .negSucc 0
  | x :: l => ifB (Nat.beq x c) 0 (match idxOf c l with | .ofNat n => .ofNat (Nat.succ n) | .negSucc n => .negSucc n)
/-- The first place of a byte. -/
noncomputable def prIdx : CallE → AV → St → RC := fun _ ar s => match ar with
  | .cons (.str l) (.cons (.i .u8 (.ofNat c)) .nil) => ifB (Nat.blt c 256) (ifB (lowL l) (.ok (.i .i64 (idxOf c l)) s) .bad) .bad
  | _ => .bad
theorem idxOf_eq (c : UInt8) : ∀ l : List UInt8, idxOf c.toNat (l.map fun b => b.toNat) = Lib.indexByte l c
  | [] => rfl
  | x :: l => by
    have ih := idxOf_eq c l
    unfold Lib.indexByte
    rw [List.map_cons]
    show ifB (Nat.beq x.toNat c.toNat) 0 _ = _
    by_cases h : x = c
    · subst h
      rw [Nat.beq_refl, ifB_true]
      simp
    · have h1 : Nat.beq x.toNat c.toNat = false := by
        rcases e : Nat.beq x.toNat c.toNat with _ | _
        · rfl
        · exact absurd (UInt8.toNat_inj.1 (Nat.eq_of_beq_eq_true e)) h
      rw [h1, ifB_false, ih]
      have h2 : (x == c) = false := by simpa using h
      rw [h2]
      have h3 := Lib.indexByte_ge l c
      cases e : Lib.indexByte l c with
      | ofNat n =>
        have h4 : (Int.ofNat n == -1) = false := rfl
        simp only [h4, Bool.false_eq_true, if_false]
        rfl
      | negSucc n =>
        rw [e] at h3
        have : n = 0 := by omega
        subst this
        rfl
theorem prIdx_ok {NG : Env} {B0 : Nat} : FnOk Tryz.prog NG B0 352 (.pr prIdx) := fun ih hih ar s v s' hrun r w args hb hs hr => by
  replace hrun : prIdx ih ar s = .ok v s' := hrun
  unfold prIdx at hrun
  split at hrun
  case h_2 => cases hrun
  rename_i l c
  rcases hc : Nat.blt c 256 with _ | _
  · rw [hc] at hrun; cases hrun
  rw [hc, ifB_true] at hrun
  have hc := blt_lt hc
  rcases hlow : lowL l with _ | _
  · rw [hlow] at hrun; cases hrun
  rw [hlow, ifB_true] at hrun
  cases hrun
  obtain ⟨u, q, rfl, h1, h2⟩ := args_two hr
  simp only [Rel] at h1 h2
  rw [byt_all r fun z hz => blt_lt (List.all_eq_true.1 hlow z hz)] at h1
  obtain ⟨x, rfl, rfl⟩ := h1
  subst h2
  have e : (Int.ofNat c).toNat.toUInt8.toNat = c := by
    show (Nat.toUInt8 c).toNat = c
    simp
    omega
  have run : (callFunc 352 #[.string x, .int .u8 (.ofNat c)]).run Tryz.prog w = .ok (.value (.int .i64 (idxOf c (x.data.toList.map fun b => b.toNat)))) w := by
    rw [@run_callFunc_extern Tryz.prog 352 _ Extern.BytealgIndexByte.indexByte Tryz.func352 (by kernel_rfl) (by kernel_rfl) (by kernel_rfl) (by kernel_rfl), Lib.run_indexByteString, ← idxOf_eq, e]
    rfl
  exact .inr ⟨_, w, run, r, rfl, hs, .refl r s w⟩
end Go.Proofs.YtenpbpgoglepfaaGreatDoor
