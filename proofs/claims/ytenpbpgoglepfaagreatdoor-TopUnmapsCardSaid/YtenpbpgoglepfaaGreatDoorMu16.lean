/- A row of our own: (*ping.Ping).Pong. No condition. -/
import Derived.Test.YtenpbpgoglepfaaGreatDoorMu14
import Derived.Test.YtenpbpgoglepfaaGreatDoorMu9
namespace Go.Proofs.YtenpbpgoglepfaaGreatDoor
open Go.RowKit
set_option linter.unusedVariables false
set_option maxHeartbeats 400000 in
theorem pong0 (b o : Nat) (k : Int) (w : World) (hc : w.cell? ⟨b, o, none⟩ = some (.pointer none)) :
    Calls Tryz.prog 284 #[.pointer (some ⟨b, o, none⟩), .int .i64 k] w fun e w' => e = .returned (.bool false) ∧ ∃ n, w' = w.drewN n := by
  go_enter Tryz.func284, Tryz.ntmps284
  go_wp2
  go_quiet (fail)
  all_goals (try go_wp2)
  all_goals (go_ret; exact ⟨rfl, _, rfl⟩)
set_option maxHeartbeats 400000 in
theorem pong1 (b o c q : Nat) (s0 t0 : Int) (w : World) (hc : w.cell? ⟨b, o, none⟩ = some (.pointer (some ⟨c, q, none⟩))) (hf : w.frozen? ⟨b, o, none⟩ = false) (hc0 : w.cell? ⟨c, q, none⟩ = some (.int .i64 s0)) (hc1 : w.cell? ⟨c, q + 1, none⟩ = some (.int .i64 t0)) :
    Calls Tryz.prog 284 #[.pointer (some ⟨b, o, none⟩), .int .i64 s0] w fun e w' => e = .returned (.bool true) ∧ ∃ n, w' = (w.drewN n).setCell ⟨b, o, none⟩ (.pointer none) := by
  have h1 : (s0 == s0) = true := beq_self_eq_true s0
  have h2 : (t0 == t0) = true := beq_self_eq_true t0
  go_enter Tryz.func284, Tryz.ntmps284
  go_wp2
  go_quiet (fail)
  all_goals (try go_wp2)
  all_goals go_ret
  all_goals first | contradiction | exact ⟨rfl, _, rfl⟩
set_option maxHeartbeats 400000 in
theorem pong2 (b o c q : Nat) (s0 t0 k : Int) (w : World) (hc : w.cell? ⟨b, o, none⟩ = some (.pointer (some ⟨c, q, none⟩))) (hc0 : w.cell? ⟨c, q, none⟩ = some (.int .i64 s0)) (hc1 : w.cell? ⟨c, q + 1, none⟩ = some (.int .i64 t0)) (hs : s0 ≠ k) :
    Calls Tryz.prog 284 #[.pointer (some ⟨b, o, none⟩), .int .i64 k] w fun e w' => e = .returned (.bool false) ∧ ∃ n, w' = w.drewN n := by
  have h1 : (s0 == k) = false := beq_eq_false_iff_ne.2 hs
  clear hs
  go_enter Tryz.func284, Tryz.ntmps284
  go_wp2
  go_quiet (fail)
  all_goals (try go_wp2)
  all_goals go_ret
  all_goals exact ⟨rfl, _, rfl⟩
theorem frozen_row {w : World} {b q : Nat} {cs : Array Value} {t : TypeId} {f : Nat × Nat} (hh : w.heap[b]? = some (.cells cs t f)) (hfz : f.2 = 0 ∨ cs.size ≤ f.1) {v : Value} (hv : cs[q]? = some v) : w.frozen? ⟨b, q, none⟩ = false := by
  have := (Array.getElem?_eq_some_iff.1 hv).1
  obtain ⟨lo, hi⟩ := f
  simp only [World.frozen?, hh, Bool.and_eq_false_iff, decide_eq_false_iff_not]
  rcases hfz with h | h
  · right; simp only at h; omega
  · left; simp only at h; omega
noncomputable def prPong : CallE → AV → St → RC := fun _ ar s => match ar with
  | .cons (.p b o) (.cons (.i .i64 k) .nil) => (match Hp.get s.h b with
    | .rw cs => (match Cs.get cs o with
      | .np => .ok (.b false) s
      | .p b2 o2 => (match Hp.get s.h b2 with
        | .rw cs2 => (match Cs.get cs2 o2, Cs.get cs2 (Nat.succ o2) with
          | .i .i64 s0, .i .i64 t0 => ifB (eqI s0 k) (.ok (.b true) (.mk (Hp.put s.h b (.rw (Cs.putL (.cons .np .nil) o cs))) s.n)) (.ok (.b false) s)
          | _, _ => .bad)
        | _ => .bad)
      | _ => .bad)
    | _ => .bad)
  | _ => .bad
theorem prPong_ok {E : Env} {B0 : Nat} : FnOk Tryz.prog E B0 284 (.pr prPong) := fun ih _ ar s v s' hrun r w args hb hs hr => by
  have hent : ∀ args w, (callFunc 284 args).run Tryz.prog w = .ok (.enter 284 args) w := ent_of Tryz.func284 (by kernel_rfl) rfl
  replace hrun : prPong ih ar s = .ok v s' := hrun
  unfold prPong at hrun
  split at hrun
  case h_2 => cases hrun
  rename_i b o k
  obtain ⟨x, y, rfl, h1, h2⟩ := args_two hr
  simp only [Rel] at h1 h2
  obtain ⟨hbh, rfl⟩ := h1
  subst h2
  split at hrun
  case h_2 => cases hrun
  rename_i cs hcs
  obtain ⟨_, rcs, t', f', hh, hz, hc, hfz⟩ := row_of hs (.inr hcs)
  split at hrun
  case h_3 => cases hrun
  · rename_i e
    cases hrun
    obtain ⟨z, hx, hrx⟩ := hc o (by rw [e]; intro h; cases h)
    rw [e] at hrx
    obtain rfl : z = .pointer none := hrx
    exact .inl ⟨hent _ _, (pong0 _ _ _ w (by rw [cell_at hh]; exact hx)).mono fun e w' ⟨he, n, hw⟩ => ⟨_, he, r, rfl, hw ▸ hs.drew n, hw ▸ .drew n⟩⟩
  · rename_i b2 o2 e
    split at hrun
    case h_2 => cases hrun
    rename_i cs2 hcs2
    obtain ⟨_, rcs2, t2, f2, hh2, hz2, hc2, hfz2⟩ := row_of hs (.inr hcs2)
    split at hrun
    case h_2 => cases hrun
    rename_i s0 t0 e0 e1
    obtain ⟨z, hx, hrx⟩ := hc o (by rw [e]; intro h; cases h)
    rw [e] at hrx
    simp only [Rel] at hrx
    obtain ⟨hb2, rfl⟩ := hrx
    obtain ⟨x0, hx0, hr0⟩ := hc2 o2 (by rw [e0]; intro h; cases h)
    rw [e0] at hr0
    obtain rfl : x0 = .int .i64 s0 := hr0
    obtain ⟨x1, hx1, hr1⟩ := hc2 (Nat.succ o2) (by rw [e1]; intro h; cases h)
    rw [e1] at hr1
    obtain rfl : x1 = .int .i64 t0 := hr1
    have c0 : w.cell? ⟨r.blk b, r.off b + o, none⟩ = some (.pointer (some ⟨r.blk b2, r.off b2 + o2, none⟩)) := by rw [cell_at hh]; exact hx
    have c1 : w.cell? ⟨r.blk b2, r.off b2 + o2, none⟩ = some (.int .i64 s0) := by rw [cell_at hh2]; exact hx0
    have c2 : w.cell? ⟨r.blk b2, r.off b2 + o2 + 1, none⟩ = some (.int .i64 t0) := by rw [cell_at hh2, Nat.add_assoc]; exact hx1
    rcases hk : eqI s0 k with _ | _
    · rw [hk] at hrun
      cases hrun
      have hne : s0 ≠ k := fun h => by rw [eqI_eq, h] at hk; simp at hk
      exact .inl ⟨hent _ _, (pong2 _ _ _ _ s0 t0 k w c0 c1 c2 hne).mono fun e w' ⟨he, n, hw⟩ => ⟨_, he, r, rfl, hw ▸ hs.drew n, hw ▸ .drew n⟩⟩
    · rw [hk] at hrun
      cases hrun
      obtain rfl : s0 = k := by rw [eqI_eq] at hk; simpa using hk
      refine .inl ⟨hent _ _, (pong1 _ _ _ _ s0 t0 w c0 (frozen_row hh hfz hx) c1 c2).mono fun e w' ⟨he, n, hw⟩ => ⟨_, he, r, rfl, ?_⟩⟩
      subst hw
      obtain ⟨p1, p2⟩ := put_ok (hs.drew n) hcs (q := o) (l := .cons .np .nil) (vs := [.pointer none]) ⟨_, _, rfl, rfl, rfl⟩ (fun j hj => ⟨rcs, t', f', _, hh, by
        obtain rfl : j = 0 := by simpa using hj
        exact hx⟩)
      exact ⟨p1, (Stp.drew n).trans p2⟩
end Go.Proofs.YtenpbpgoglepfaaGreatDoor
namespace Go.Proofs.YtenpbpgoglepfaaGreatDoor
open Go.RowKit Go.Extern.Stop Go.Stop Go.Extern
set_option linter.unusedVariables false
set_option maxRecDepth 100000
theorem Tryz.valueOfP (t : Addr) (w : World) : (ReflectliteValue.unpack (.iface 257 (.pointer (some t)))).run Tryz.prog w
    = .ok (.agg #[.pointer (some ⟨18, 257, none⟩), .pointer (some ⟨w.heap.size, 0, none⟩), .int .u64 150]) (w.alloc (.cells #[.pointer (some t)] 257)) := by kernel_rfl
theorem Tryz.typeP (a : Addr) (w : World) : (ReflectliteValue.methodAny (ReflectliteValue.valueError "reflectlite.Value.Type" 0) (fun t _ _ _ => ReflectliteType.toType t) #[.agg #[.pointer (some ⟨18, 257, none⟩), .pointer (some a), .int .u64 150]]).run Tryz.prog w
    = .ok (.iface 360 (.agg #[.pointer (some ⟨18, 257, none⟩)])) w := by kernel_rfl
theorem Tryz.methodKind (h : Value) (w : World) : (Go.method 596 360 (.agg #[h]) "Kind").run Tryz.prog w = .ok (384, h) w := by kernel_rfl
theorem Tryz.kindP (w : World) : ((ReflectliteType.abiMethod fun t => (fun a : Nat => Value.int IntKind.u8 (a : Int)) <$> Rtype.kind t) #[.pointer (some ⟨18, 257, none⟩)]).run Tryz.prog w = .ok (.int .u8 22) w := by kernel_rfl
theorem Tryz.kindF (w : World) : ((ReflectliteType.abiMethod fun t => (fun a : Nat => Value.int IntKind.u8 (a : Int)) <$> Rtype.kind t) #[.pointer (some ⟨18, 255, none⟩)]).run Tryz.prog w = .ok (.int .u8 22) w := by kernel_rfl
theorem rlm (z : Sem Value) (f : TypeId → Addr → Nat → Nat → Sem Value) (v : Value) :
    ReflectliteValue.method z f #[v] = (do match ← ReflectliteValue.parts v with | none => z | some (t, a, fl) => f t a fl (fl % 32)) := rfl
theorem Tryz.partsP (a : Addr) (w : World) : (ReflectliteValue.parts (.agg #[.pointer (some ⟨18, 257, none⟩), .pointer (some a), .int .u64 150])).run Tryz.prog w = .ok (some (257, a, 150)) w := by kernel_rfl
theorem Tryz.isNilP (a p : Addr) (W : World) (ha : W.cell? a = some (.pointer (some p))) :
    (ReflectliteValue.method (ReflectliteValue.valueError "reflectlite.Value.IsNil" 0) ReflectliteValue.isNil #[.agg #[.pointer (some ⟨18, 257, none⟩), .pointer (some a), .int .u64 150]]).run Tryz.prog W = .ok (.bool false) W := by
  rw [rlm]
  simp only [Sem.run_bind, Tryz.partsP, Result.andThen]
  simp [ReflectliteValue.isNil, loadVar, isAgg, underlying, Tryz.underlying257, ha, Result.andThen]
theorem Tryz.methodElem (h : Value) (w : World) : (Go.method 596 360 (.agg #[h]) "Elem").run Tryz.prog w = .ok (397, .agg #[h]) w := by kernel_rfl
theorem Tryz.methodImplements (h : Value) (w : World) : (Go.method 596 360 (.agg #[h]) "Implements").run Tryz.prog w = .ok (398, .agg #[h]) w := by kernel_rfl
theorem Tryz.methodAssignableTo (h : Value) (w : World) : (Go.method 596 360 (.agg #[h]) "AssignableTo").run Tryz.prog w = .ok (395, .agg #[h]) w := by kernel_rfl
theorem Tryz.elemP (w : World) : (ReflectliteType.method ReflectliteType.elem #[.agg #[.pointer (some ⟨18, 257, none⟩)]]).run Tryz.prog w = .ok (.iface 360 (.agg #[.pointer (some ⟨18, 255, none⟩)])) w := by kernel_rfl
theorem Tryz.implementsF (w : World) : (ReflectliteType.relation "Implements" ReflectliteType.implements_ #[.agg #[.pointer (some ⟨18, 255, none⟩)], .iface 360 (.agg #[.pointer (some ⟨18, 26, none⟩)])]).run Tryz.prog w = .ok (.bool true) w := by kernel_rfl
theorem Tryz.typeOfF (v : Value) (w : World) : (ReflectliteType.typeOf #[.iface 255 v]).run Tryz.prog w = .ok (.iface 360 (.agg #[.pointer (some ⟨18, 255, none⟩)])) w := by kernel_rfl
theorem Tryz.assignF (w : World) : (ReflectliteType.relation "AssignableTo" ReflectliteType.assignableTo #[.agg #[.pointer (some ⟨18, 255, none⟩)], .iface 360 (.agg #[.pointer (some ⟨18, 255, none⟩)])]).run Tryz.prog w = .ok (.bool true) w := by kernel_rfl
theorem Tryz.assignE (w : World) : (ReflectliteType.relation "AssignableTo" ReflectliteType.assignableTo #[.agg #[.pointer (some ⟨18, 465, none⟩)], .iface 360 (.agg #[.pointer (some ⟨18, 255, none⟩)])]).run Tryz.prog w = .ok (.bool false) w := by kernel_rfl
theorem Tryz.valueOfF (e : Addr) (w : World) : (ReflectliteValue.unpack (.iface 255 (.pointer (some e)))).run Tryz.prog w
    = .ok (.agg #[.pointer (some ⟨18, 255, none⟩), .pointer (some ⟨w.heap.size, 0, none⟩), .int .u64 150]) (w.alloc (.cells #[.pointer (some e)] 255)) := by kernel_rfl
theorem Tryz.elemOfP (w : World) : (Rtype.elem? 257).run Tryz.prog w = .ok (some 255) w := by kernel_rfl
theorem Tryz.mkF (p : Addr) (w : World) : (ReflectliteValue.mk 255 p ReflectliteValue.flagAddr).run Tryz.prog w = .ok (.agg #[.pointer (some ⟨18, 255, none⟩), .pointer (some p), .int .u64 406]) w := by kernel_rfl
theorem Tryz.elemVP (a p : Addr) (W : World) (ha : W.cell? a = some (.pointer (some p))) :
    (ReflectliteValue.method (ReflectliteValue.valueError "reflectlite.Value.Elem" 0) ReflectliteValue.elem #[.agg #[.pointer (some ⟨18, 257, none⟩), .pointer (some a), .int .u64 150]]).run Tryz.prog W
      = .ok (.agg #[.pointer (some ⟨18, 255, none⟩), .pointer (some p), .int .u64 406]) W := by
  rw [rlm]
  simp only [Sem.run_bind, Tryz.partsP, Result.andThen]
  simp [ReflectliteValue.elem, loadVar, isAgg, underlying, Tryz.underlying257, ha, Result.andThen, Tryz.elemOfP, Tryz.mkF]
theorem rls (v x : Value) : ReflectliteValue.set #[v, x] = (do
    let (some (dst, a, fl), some (src, b, _)) := (← ReflectliteValue.parts v, ← ReflectliteValue.parts x)
      | unsupported (.noEntry "extern/(internal/reflectlite.Value).Set.zeroValue")
    if fl / ReflectliteValue.flagAddr % 2 == 0 then unsupported (.noEntry "extern/(internal/reflectlite.Value).Set.unaddressable")
    let val ← loadVar src b
    if ← Rtype.directlyAssignable dst src then storeVar dst a val
    else if ← Rtype.implements dst src then
      if (← Rtype.kind src) == 20 then
        match val with
        | .nilIface => unsupported (.noEntry "extern/reflectlite: a nil value of one interface type handed on as a value of another")
        | _ => storeVar dst a val
      else storeVar dst a (.iface src val)
    else panicString ("reflectlite.Set: value of type " ++ (← Rtype.spelt src) ++ " is not assignable to type " ++ (← Rtype.spelt dst))
    pure (.tuple #[])) := rfl
theorem Tryz.partsFa (a : Addr) (w : World) : (ReflectliteValue.parts (.agg #[.pointer (some ⟨18, 255, none⟩), .pointer (some a), .int .u64 406])).run Tryz.prog w = .ok (some (255, a, 406)) w := by kernel_rfl
theorem Tryz.partsF (a : Addr) (w : World) : (ReflectliteValue.parts (.agg #[.pointer (some ⟨18, 255, none⟩), .pointer (some a), .int .u64 150])).run Tryz.prog w = .ok (some (255, a, 150)) w := by kernel_rfl
theorem Tryz.directF (w : World) : (Rtype.directlyAssignable 255 255).run Tryz.prog w = .ok true w := by kernel_rfl
theorem Tryz.setF (ta b e : Addr) (old : Value) (W : World) (hb : W.cell? b = some (.pointer (some e))) (ht : W.cell? ta = some old) (hf : W.frozen? ta = false) :
    (ReflectliteValue.set #[.agg #[.pointer (some ⟨18, 255, none⟩), .pointer (some ta), .int .u64 406], .agg #[.pointer (some ⟨18, 255, none⟩), .pointer (some b), .int .u64 150]]).run Tryz.prog W
      = .ok (.tuple #[]) (W.setCell ta (.pointer (some e))) := by
  rw [rls]
  simp only [Sem.run_bind, Tryz.partsFa, Tryz.partsF, Result.andThen]
  simp [ReflectliteValue.flagAddr, loadVar, isAgg, underlying, Tryz.underlying255, hb, Result.andThen, Tryz.directF, storeVar, Value.cells, storeCells, Addr.add]
  rw [run_store Tryz.prog W ta _ _ (by rfl)]
  simp [ht, hf]
theorem Tryz.noAsE (v : Value) (xT : TypeId) (w : World) : (Instr.typeAssert (.iface 465 v) xT 399 true).run Tryz.prog w = .ok (.tuple #[.nilIface, .bool false]) w := run_typeAssert_lacksB Tryz.underlying399 (by kernel_rfl) (by kernel_rfl) v xT w

set_option maxHeartbeats 1000000 in
theorem as2_base (q ta : Addr) (a : Nat) (w : World) (ha : Blk w a 257 #[.pointer (some ta)]) :
    Calls Tryz.prog 226 #[.iface 465 (.pointer (some q)), .iface 257 (.pointer (some ta)), .agg #[.pointer (some ⟨18, 257, none⟩), .pointer (some ⟨a, 0, none⟩), .int .u64 150], .iface 360 (.agg #[.pointer (some ⟨18, 255, none⟩)])] w fun ev w' => ev = .returned (.bool false) ∧ Below w.heap.size w w' := by
  have h6 := @run_callFunc_extern Tryz.prog 223 _ (fun args => ReflectliteValue.unpack (args.getD 0 (.tuple #[]))) Tryz.func223 (by kernel_rfl) (by kernel_rfl) (by kernel_rfl) (by kernel_rfl)
  have h10 := @run_callFunc_extern Tryz.prog 176 _ ReflectliteType.typeOf Tryz.func176 (by kernel_rfl) (by kernel_rfl) (by kernel_rfl) (by kernel_rfl)
  have h35 := @run_callFunc_extern Tryz.prog 395 _ (ReflectliteType.relation "AssignableTo" ReflectliteType.assignableTo) Tryz.func395 (by kernel_rfl) (by kernel_rfl) (by kernel_rfl) (by kernel_rfl)
  have h11 := @run_callFunc_extern Tryz.prog 289 _ (ReflectliteValue.method (ReflectliteValue.valueError "reflectlite.Value.Elem" 0) ReflectliteValue.elem) Tryz.func289 (by kernel_rfl) (by kernel_rfl) (by kernel_rfl) (by kernel_rfl)
  have h12 := @run_callFunc_extern Tryz.prog 290 _ ReflectliteValue.set Tryz.func290 (by kernel_rfl) (by kernel_rfl) (by kernel_rfl) (by kernel_rfl)
  have tE := Tryz.isTypeOf
  have mA := Tryz.methodAssignableTo
  have aE := Tryz.assignE
  have uE := Tryz.noUnwrapE
  have vE := Tryz.noUnwrapsE
  have nAE := Tryz.noAsE
  clear ha
  go_enter Tryz.func226, Tryz.ntmps226
  go_wp2_with fail
  refine wp_loop_rounds 1 ?_
  rw [rounds_succ]
  go_wp2_with fail
  go_ret
  exact ⟨rfl, (Below.refl _ _).alloc (Nat.le_refl _) _⟩
set_option maxHeartbeats 1000000 in
theorem as2_fault (q ta : Addr) (a : Nat) (old : Value) (w : World) (hta : w.cell? ta = some old) (hfz : w.frozen? ta = false) (ha : Blk w a 257 #[.pointer (some ta)]) :
    Calls Tryz.prog 226 #[.iface 255 (.pointer (some q)), .iface 257 (.pointer (some ta)), .agg #[.pointer (some ⟨18, 257, none⟩), .pointer (some ⟨a, 0, none⟩), .int .u64 150], .iface 360 (.agg #[.pointer (some ⟨18, 255, none⟩)])] w fun ev w' => ev = .returned (.bool true) ∧ ∃ w1, Below w.heap.size w w1 ∧ w' = w1.setCell ta (.pointer (some q)) := by
  have h6 := @run_callFunc_extern Tryz.prog 223 _ (fun args => ReflectliteValue.unpack (args.getD 0 (.tuple #[]))) Tryz.func223 (by kernel_rfl) (by kernel_rfl) (by kernel_rfl) (by kernel_rfl)
  have h10 := @run_callFunc_extern Tryz.prog 176 _ ReflectliteType.typeOf Tryz.func176 (by kernel_rfl) (by kernel_rfl) (by kernel_rfl) (by kernel_rfl)
  have h35 := @run_callFunc_extern Tryz.prog 395 _ (ReflectliteType.relation "AssignableTo" ReflectliteType.assignableTo) Tryz.func395 (by kernel_rfl) (by kernel_rfl) (by kernel_rfl) (by kernel_rfl)
  have h11 := @run_callFunc_extern Tryz.prog 289 _ (ReflectliteValue.method (ReflectliteValue.valueError "reflectlite.Value.Elem" 0) ReflectliteValue.elem) Tryz.func289 (by kernel_rfl) (by kernel_rfl) (by kernel_rfl) (by kernel_rfl)
  have h12 := @run_callFunc_extern Tryz.prog 290 _ ReflectliteValue.set Tryz.func290 (by kernel_rfl) (by kernel_rfl) (by kernel_rfl) (by kernel_rfl)
  have tF := Tryz.typeOfF
  have mA := Tryz.methodAssignableTo
  have aF := Tryz.assignF
  have vF := Tryz.valueOfF
  have hlt := World.block_lt_of_cell? _ _ hta
  obtain ⟨wa, hwa⟩ : ∃ wa, wa = w.alloc (.cells #[.pointer (some ⟨18, 257, none⟩), .pointer (some ⟨a, 0, none⟩), .int .u64 150] 338) := ⟨_, rfl⟩
  obtain ⟨wb, hwb⟩ : ∃ wb, wb = wa.alloc (.cells #[.pointer (some q)] 255) := ⟨_, rfl⟩
  have hb1 : Below w.heap.size w wa := by rw [hwa]; exact (Below.refl _ _).alloc (Nat.le_refl _) _
  have hb2 : Below w.heap.size w wb := by rw [hwb]; exact hb1.alloc hb1.size _
  have el := Tryz.elemVP ⟨a, 0, none⟩ ta wa ((by rw [hwa]; exact ha.alloc _ : Blk wa a 257 #[.pointer (some ta)]).cell 0)
  have st := Tryz.setF ta ⟨w.heap.size + 1, 0, none⟩ q old wb (by
    have := (Blk.new wa 255 #[.pointer (some q)])
    rw [← hwb, hwa, World.size_alloc] at this
    exact this.cell 0) ((hb2.cell hlt).trans hta) ((hb2.frozen hlt).trans hfz)
  have HB2 := Lib.hid hb2
  rw [hwb, hwa] at st
  rw [hwa] at el
  rw [hwa] at hwb
  have HW := Lib.hid hwb
  clear hta hfz ha hlt hb1 hb2 hwa hwb
  go_enter Tryz.func226, Tryz.ntmps226
  go_wp2_with fail
  refine wp_loop_rounds 1 ?_
  rw [rounds_succ]
  go_wp2_with fail
  go_ret
  exact ⟨rfl, wb, HB2.out, by rw [HW.out]⟩
set_option maxHeartbeats 1000000 in
theorem as3_base (q ta : Addr) (w : World) (hy : ETy0 w.heap.size w) :
    Calls Tryz.prog 147 #[.iface 465 (.pointer (some q)), .iface 257 (.pointer (some ta))] w fun ev w' => ev = .returned (.bool false) ∧ Below w.heap.size w w' := by
  have h6 := @run_callFunc_extern Tryz.prog 223 _ (fun args => ReflectliteValue.unpack (args.getD 0 (.tuple #[]))) Tryz.func223 (by kernel_rfl) (by kernel_rfl) (by kernel_rfl) (by kernel_rfl)
  have h7 := @run_callFunc_extern Tryz.prog 224 _ (ReflectliteValue.methodAny (ReflectliteValue.valueError "reflectlite.Value.Type" 0) (fun t _ _ _ => ReflectliteType.toType t)) Tryz.func224 (by kernel_rfl) (by kernel_rfl) (by kernel_rfl) (by kernel_rfl)
  have h8 := @run_callFunc_extern Tryz.prog 225 _ (ReflectliteValue.method (ReflectliteValue.valueError "reflectlite.Value.IsNil" 0) ReflectliteValue.isNil) Tryz.func225 (by kernel_rfl) (by kernel_rfl) (by kernel_rfl) (by kernel_rfl)
  have h27 := @run_callFunc_extern Tryz.prog 384 _ (ReflectliteType.abiMethod fun t => do pure (.int .u8 (← Rtype.kind t))) Tryz.func384 (by kernel_rfl) (by kernel_rfl) (by kernel_rfl) (by kernel_rfl)
  have h37 := @run_callFunc_extern Tryz.prog 397 _ (ReflectliteType.method ReflectliteType.elem) Tryz.func397 (by kernel_rfl) (by kernel_rfl) (by kernel_rfl) (by kernel_rfl)
  have h38 := @run_callFunc_extern Tryz.prog 398 _ (ReflectliteType.relation "Implements" ReflectliteType.implements_) Tryz.func398 (by kernel_rfl) (by kernel_rfl) (by kernel_rfl) (by kernel_rfl)
  have f6 := Tryz.valueOfP
  have f7 := Tryz.typeP
  have mK := Tryz.methodKind
  have mE := Tryz.methodElem
  have mI := Tryz.methodImplements
  have kP := Tryz.kindP
  have kF := Tryz.kindF
  have eP := Tryz.elemP
  have iF := Tryz.implementsF
  obtain ⟨w1, hw1⟩ : ∃ w1, w1 = w.alloc (.cells #[.pointer (some ta)] 257) := ⟨_, rfl⟩
  obtain ⟨w2, hw2⟩ : ∃ w2, w2 = w1.alloc (.cells #[.pointer (some ⟨18, 257, none⟩), .pointer (some ⟨w.heap.size, 0, none⟩), .int .u64 150] 338) := ⟨_, rfl⟩
  have hb1 : Below w.heap.size w w1 := by rw [hw1]; exact (Below.refl _ _).alloc (Nat.le_refl _) _
  have hb2 : Below w.heap.size w w2 := by rw [hw2]; exact hb1.alloc hb1.size _
  have hk1 : Blk w1 w.heap.size 257 #[.pointer (some ta)] := by rw [hw1]; exact Blk.new _ _ _
  have hk2 : Blk w2 w.heap.size 257 #[.pointer (some ta)] := by rw [hw2]; exact hk1.alloc _
  have hg2 : w2.cell? ⟨15, 0, none⟩ = some (.iface 360 (.agg #[.pointer (some ⟨18, 26, none⟩)])) := by
    obtain ⟨ty, f, hh⟩ := (hy.to (hb2.block _ hy.1)).2
    rw [cell_at hh]; rfl
  have n8 := Tryz.isNilP ⟨w.heap.size, 0, none⟩ ta w2 (hk2.cell 0)
  have HI := Lib.hid (as2_base q ta w.heap.size w2 hk2)
  have HB2 := Lib.hid hb2
  have hw2' := hw2
  rw [hw1] at hw2'
  rw [hw2'] at hg2 n8
  have HW2 := Lib.hid hw2'
  clear hy hb1 hb2 hk1 hk2 hw1 hw2 hw2'
  go_enter Tryz.func147, Tryz.ntmps147
  go_wp2_with fail
  rw [← HW2.out]
  refine HI.out.mono ?_
  intro ev w3 hp
  have HP := Lib.hid hp
  clear hp
  obtain ⟨rfl, hb3⟩ := HP.out
  have HB3 := Lib.hid (HB2.out.trans (hb3.mono HB2.out.size))
  clear hb3
  go_wp2_with fail
  go_ret
  exact ⟨rfl, HB3.out⟩
set_option maxHeartbeats 1000000 in
theorem as3_fault (q ta : Addr) (old : Value) (w : World) (hy : ETy0 w.heap.size w) (hta : w.cell? ta = some old) (hfz : w.frozen? ta = false) :
    Calls Tryz.prog 147 #[.iface 255 (.pointer (some q)), .iface 257 (.pointer (some ta))] w fun ev w' => ev = .returned (.bool true) ∧ ∃ w1, Below w.heap.size w w1 ∧ w' = w1.setCell ta (.pointer (some q)) := by
  have h6 := @run_callFunc_extern Tryz.prog 223 _ (fun args => ReflectliteValue.unpack (args.getD 0 (.tuple #[]))) Tryz.func223 (by kernel_rfl) (by kernel_rfl) (by kernel_rfl) (by kernel_rfl)
  have h7 := @run_callFunc_extern Tryz.prog 224 _ (ReflectliteValue.methodAny (ReflectliteValue.valueError "reflectlite.Value.Type" 0) (fun t _ _ _ => ReflectliteType.toType t)) Tryz.func224 (by kernel_rfl) (by kernel_rfl) (by kernel_rfl) (by kernel_rfl)
  have h8 := @run_callFunc_extern Tryz.prog 225 _ (ReflectliteValue.method (ReflectliteValue.valueError "reflectlite.Value.IsNil" 0) ReflectliteValue.isNil) Tryz.func225 (by kernel_rfl) (by kernel_rfl) (by kernel_rfl) (by kernel_rfl)
  have h27 := @run_callFunc_extern Tryz.prog 384 _ (ReflectliteType.abiMethod fun t => do pure (.int .u8 (← Rtype.kind t))) Tryz.func384 (by kernel_rfl) (by kernel_rfl) (by kernel_rfl) (by kernel_rfl)
  have h37 := @run_callFunc_extern Tryz.prog 397 _ (ReflectliteType.method ReflectliteType.elem) Tryz.func397 (by kernel_rfl) (by kernel_rfl) (by kernel_rfl) (by kernel_rfl)
  have h38 := @run_callFunc_extern Tryz.prog 398 _ (ReflectliteType.relation "Implements" ReflectliteType.implements_) Tryz.func398 (by kernel_rfl) (by kernel_rfl) (by kernel_rfl) (by kernel_rfl)
  have f6 := Tryz.valueOfP
  have f7 := Tryz.typeP
  have mK := Tryz.methodKind
  have mE := Tryz.methodElem
  have mI := Tryz.methodImplements
  have kP := Tryz.kindP
  have kF := Tryz.kindF
  have eP := Tryz.elemP
  have iF := Tryz.implementsF
  obtain ⟨w1, hw1⟩ : ∃ w1, w1 = w.alloc (.cells #[.pointer (some ta)] 257) := ⟨_, rfl⟩
  obtain ⟨w2, hw2⟩ : ∃ w2, w2 = w1.alloc (.cells #[.pointer (some ⟨18, 257, none⟩), .pointer (some ⟨w.heap.size, 0, none⟩), .int .u64 150] 338) := ⟨_, rfl⟩
  have hb1 : Below w.heap.size w w1 := by rw [hw1]; exact (Below.refl _ _).alloc (Nat.le_refl _) _
  have hb2 : Below w.heap.size w w2 := by rw [hw2]; exact hb1.alloc hb1.size _
  have hk1 : Blk w1 w.heap.size 257 #[.pointer (some ta)] := by rw [hw1]; exact Blk.new _ _ _
  have hk2 : Blk w2 w.heap.size 257 #[.pointer (some ta)] := by rw [hw2]; exact hk1.alloc _
  have hg2 : w2.cell? ⟨15, 0, none⟩ = some (.iface 360 (.agg #[.pointer (some ⟨18, 26, none⟩)])) := by
    obtain ⟨ty, f, hh⟩ := (hy.to (hb2.block _ hy.1)).2
    rw [cell_at hh]; rfl
  have n8 := Tryz.isNilP ⟨w.heap.size, 0, none⟩ ta w2 (hk2.cell 0)
  have hlt := World.block_lt_of_cell? _ _ hta
  have HI := Lib.hid (as2_fault q ta w.heap.size old w2 ((hb2.cell hlt).trans hta) ((hb2.frozen hlt).trans hfz) hk2)
  clear hta hfz hlt
  have HB2 := Lib.hid hb2
  have hw2' := hw2
  rw [hw1] at hw2'
  rw [hw2'] at hg2 n8
  have HW2 := Lib.hid hw2'
  clear hy hb1 hb2 hk1 hk2 hw1 hw2 hw2'
  go_enter Tryz.func147, Tryz.ntmps147
  go_wp2_with fail
  rw [← HW2.out]
  refine HI.out.mono ?_
  intro ev w3 hp
  have HP := Lib.hid hp
  clear hp
  obtain ⟨rfl, w4, hb3, hw4⟩ := HP.out
  have HB3 := Lib.hid (HB2.out.trans (hb3.mono HB2.out.size))
  have HW4 := Lib.hid hw4
  clear hb3 hw4
  go_wp2_with fail
  go_ret
  exact ⟨rfl, w4, HB3.out, HW4.out⟩
noncomputable def prAs : CallE → AV → St → RC := fun _ ar s => match ar with
  | .cons (.ifc t (.p b o)) (.cons (.ifc t2 (.p c q)) .nil) => ifB (Nat.beq t2 257) (ifB (Nat.beq t 465) (.ok (.b false) s) (ifB (Nat.beq t 255)
    (match Hp.get s.h c with
      | .rw cs => AV.onOne (Cs.get cs q) .bad (.ok (.b true) (.mk (Hp.put s.h c (.rw (Cs.putL (.cons (.p b o) .nil) q cs))) s.n))
      | _ => .bad) .bad)) .bad
  | _ => .bad
theorem prAs_ok {E : Env} {B0 : Nat} : FnOk Tryz.prog E B0 147 (.pr prAs) := fun ih _ ar s v s' hrun r w args hb hs hr => by
  have hent : ∀ args w, (callFunc 147 args).run Tryz.prog w = .ok (.enter 147 args) w := ent_of Tryz.func147 (by kernel_rfl) rfl
  replace hrun : prAs ih ar s = .ok v s' := hrun
  unfold prAs at hrun
  split at hrun
  case h_2 => cases hrun
  rename_i t b o t2 c q
  rcases h1 : Nat.beq t2 257 with _ | _
  · rw [h1] at hrun; cases hrun
  rw [h1, ifB_true] at hrun
  obtain rfl := Nat.eq_of_beq_eq_true h1
  obtain ⟨x, y, rfl, k1, k2⟩ := args_two hr
  simp only [Rel] at k1 k2
  obtain ⟨_, rfl, hbh, rfl⟩ := k1
  obtain ⟨_, rfl, hch, rfl⟩ := k2
  have hy : ETy0 w.heap.size w := ⟨by have := hs.ety.1; have := hs.low; omega, hs.ety.2⟩
  rcases h2 : Nat.beq t 465 with _ | _
  · rw [h2, ifB_false] at hrun
    rcases h3 : Nat.beq t 255 with _ | _
    · rw [h3] at hrun; cases hrun
    rw [h3, ifB_true] at hrun
    obtain rfl := Nat.eq_of_beq_eq_true h3
    split at hrun
    case h_2 => cases hrun
    rename_i cs hcs
    have hu : Cs.get cs q ≠ .u := fun e => by rw [e] at hrun; cases hrun
    have e2 : RC.ok (.b true) (.mk (Hp.put s.h c (.rw (Cs.putL (.cons (.p b o) .nil) q cs))) s.n) = RC.ok v s' := by
      generalize Cs.get cs q = z at hrun
      cases z <;> first | exact hrun | cases hrun
    cases e2
    obtain ⟨_, rcs, t', f', hh, hz, hc, hfz⟩ := row_of hs (.inr hcs)
    obtain ⟨z, hx, hrx⟩ := hc q hu
    refine .inl ⟨hent _ _, (as3_fault _ ⟨r.blk c, r.off c + q, none⟩ z w hy (by rw [cell_at hh]; exact hx) (frozen_row hh hfz hx)).mono fun e w' ⟨he, w1, hB, hw⟩ => ⟨_, he, r, rfl, ?_⟩⟩
    subst hw
    obtain ⟨m1, m2⟩ := hs.more hB
    obtain ⟨_, rcs1, t1, f1, hh1, hz1, hc1, hfz1⟩ := row_of m1 (.inr hcs)
    obtain ⟨z1, hx1, _⟩ := hc1 q hu
    obtain ⟨p1, p2⟩ := put_ok m1 hcs (q := q) (l := .cons (.p b o) .nil) (vs := [.pointer (some ⟨r.blk b, r.off b + o, none⟩)]) ⟨_, _, rfl, ⟨hbh, rfl⟩, rfl⟩ (fun j hj => ⟨rcs1, t1, f1, _, hh1, by
      obtain rfl : j = 0 := by simpa using hj
      exact hx1⟩)
    exact ⟨p1, m2.trans p2⟩
  · rw [h2, ifB_true] at hrun
    cases hrun
    obtain rfl := Nat.eq_of_beq_eq_true h2
    refine .inl ⟨hent _ _, (as3_base _ ⟨r.blk c, r.off c + q, none⟩ w hy).mono fun e w' ⟨he, hB⟩ => ⟨_, he, r, rfl, hs.more hB⟩⟩
end Go.Proofs.YtenpbpgoglepfaaGreatDoor
namespace Go.Proofs.YtenpbpgoglepfaaGreatDoor
open Go.RowKit
set_option linter.unusedVariables false

/-- Each of a list, with the others. -/
def splitsA {α : Type} : List α → List (α × List α)
  | [] => []
  | a :: l => (a, l) :: (splitsA l).map fun p => (p.1, a :: p.2)
theorem splitsA_mid {α : Type} (x : α) : ∀ (A B : List α), (x, A ++ B) ∈ splitsA (A ++ x :: B)
  | [], B => List.mem_cons_self ..
  | a :: A, B => List.mem_cons_of_mem _ (List.mem_map.2 ⟨_, splitsA_mid x A B, rfl⟩)
/-- A map's entries, key and value. -/
def pairsA : AV → Option (List (AV × AV))
  | .nil => some []
  | .cons k (.cons v l) => (pairsA l).map ((k, v) :: ·)
  | _ => none
theorem pairs_rel {r : Rho} : ∀ (es : List MapEntry) (l : AV) (ps : List (AV × AV)), RelL r l (es.flatMap fun e => [e.key, e.val]) → pairsA l = some ps →
    ∃ T : List ((AV × AV) × MapEntry), T.map (·.1) = ps ∧ T.map (·.2) = es ∧ ∀ t ∈ T, Rel r t.1.1 t.2.key ∧ Rel r t.1.2 t.2.val
  | [], l, ps, h, hp => by
    cases l with
    | nil => cases hp; exact ⟨[], rfl, rfl, fun t ht => by cases ht⟩
    | cons a t =>
      simp only [RelL] at h
      obtain ⟨v, vs, e, _⟩ := h
      cases e
    | _ => simp [RelL] at h
  | e :: es, l, ps, h, hp => by
    cases l with
    | nil => simp [RelL] at h
    | cons k t =>
      simp only [RelL] at h
      obtain ⟨v1, vs1, q1, q2, q3⟩ := h
      simp only [List.flatMap_cons, List.cons_append, List.nil_append, List.cons.injEq] at q1
      obtain ⟨x1, x2⟩ := q1
      subst x1 x2
      cases t with
      | cons v l2 =>
        simp only [RelL] at q3
        obtain ⟨v2, vs2, p1, p2, p3⟩ := q3
        simp only [List.cons.injEq] at p1
        obtain ⟨x3, x4⟩ := p1
        subst x3 x4
        simp only [pairsA, Option.map_eq_some_iff] at hp
        obtain ⟨ps2, hp2, rfl⟩ := hp
        obtain ⟨T, t1, t2, t3⟩ := pairs_rel es l2 ps2 p3 hp2
        exact ⟨((k, v), e) :: T, by simp [t1], by simp [t2], fun t ht => by
          rcases List.mem_cons.1 ht with rfl | ht
          · exact ⟨q2, p2⟩
          · exact t3 t ht⟩
      | _ => simp [RelL] at q3
    | _ => simp [RelL] at h
theorem left_push (es : Array MapEntry) (vis : Array Nat) (x : Nat) : (leftOf es (vis.push x)).toList = (leftOf es vis).toList.filter fun e => !(e.born == x) := by
  unfold leftOf
  rw [Array.toList_filter, Array.toList_filter, List.filter_filter]
  congr 1
  funext e
  rw [Array.contains_push, Bool.not_or, Bool.and_comm]
theorem filter_mid (x : MapEntry) (A B : List MapEntry) (h : ((A ++ x :: B).map (·.born)).Nodup) : (A ++ x :: B).filter (fun e => !(e.born == x.born)) = A ++ B := by
  rw [List.map_append, List.map_cons, List.nodup_append] at h
  obtain ⟨_, h2, h3⟩ := h
  rw [List.nodup_cons] at h2
  rw [List.filter_append, List.filter_cons_of_neg (by simp)]
  congr 1
  · refine List.filter_eq_self.2 fun e he => ?_
    have := h3 e.born (List.mem_map.2 ⟨e, he, rfl⟩) x.born (List.mem_cons_self ..)
    simpa using this
  · refine List.filter_eq_self.2 fun e he => ?_
    have : e.born ≠ x.born := fun e2 => h2.1 (List.mem_map.2 ⟨e, he, e2⟩)
    simpa using this

/-- A round of an entry. -/
noncomputable def rndM (xi xc : X) (dnx den : D) (mid post : List I) (ib b : Nat) (c : CallE) (bd : Fr → St → R) (e : AV × AV) (fr : Fr) (s : St) : R :=
  rmpIt xi ib fr (evL mid c (D.put dnx (.tup (.cons (.b true) (.cons e.1 (.cons e.2 .nil)))) fr) (.mk (Hp.put s.h b .no) s.n) fun fr4 s4 =>
    AV.onB (X.ev xc fr4) .bad fun t => ifB t (rmpIt xi ib fr4 (evL post c (D.put den (.tup (.cons e.1 (.cons e.2 .nil))) fr4) s4 bd)) .bad)
noncomputable def mapBack (b : Nat) (l : AV) (s : St) : St := .mk (Hp.put s.h b (.mp l)) s.n
/-- Behind a round. -/
noncomputable def nextM (b1 b2 b : Nat) (l : AV) (go : Fr → St → List R) : R → List R
  | .bad => [.bad]
  | .nrm fr s => go fr (mapBack b l s)
  | .ex id fr s => ifB (Nat.beq id b2) (go fr (mapBack b l s)) (ifB (Nat.beq id b1) [.nrm fr (mapBack b l s)] [.ex id fr (mapBack b l s)])
  | .rt fr s => [.rt fr (mapBack b l s)]
/-- All that a loop may come to, from the head of a round on. -/
noncomputable def headM (last : Fr → St → R) (rnd : AV × AV → Fr → St → R) (nxt : (Fr → St → List R) → R → List R) : Nat → List (AV × AV) → Fr → St → List R
  | _, [], fr, s => [last fr s]
  | 0, _ :: _, _, _ => [.bad]
  | n + 1, e :: l, fr, s => (splitsA (e :: l)).flatMap fun p => nxt (headM last rnd nxt n p.2) (rnd p.1 fr s)
theorem rmpIt_or (xi : X) (ib : Nat) (fr : Fr) (k : R) : rmpIt xi ib fr k = .bad ∨ (X.ev xi fr = .p ib 0 ∧ rmpIt xi ib fr k = k) := by
  unfold rmpIt
  cases hx : X.ev xi fr <;> try exact .inl rfl
  rename_i b o
  show ifB (Nat.beq b ib) (ifB (Nat.beq o 0) k .bad) .bad = .bad ∨ _
  rcases hq : Nat.beq b ib with _ | _
  · exact .inl rfl
  rcases hq2 : Nat.beq o 0 with _ | _
  · exact .inl rfl
  refine .inr ⟨by rw [Nat.eq_of_beq_eq_true hq, Nat.eq_of_beq_eq_true hq2], ?_⟩
  show ifB (Nat.beq b ib) (ifB (Nat.beq o 0) k .bad) .bad = k
  rw [hq, hq2]
  rfl
section
variable {P : Program} {NG : Env} {B0 N : Nat} {ro : Option Nat} {C : CallE → Prop} {r : Rho} {s : St} {w w3 : World}
/-- A block that nobody knows is another one from here on. -/
theorem Sim.unk (h : Sim B0 r s w) {y : Nat} (hy : ∀ b, Hp.get s.h b ≠ .no → r.blk b ≠ y) (he : 15 ≠ y) (hsz : w3.heap.size = w.heap.size) (ho : ∀ x, x ≠ y → w3.heap[x]? = w.heap[x]?) : Sim B0 r s w3 :=
  ⟨h.n, h.lt, by rw [hsz]; exact h.low, fun b => by
    by_cases hno : Hp.get s.h b = .no
    · rw [hno]; trivial
    · exact OkB.le (h.ok b) (.refl r) (ho _ (hy b hno)), h.inj, h.ety.to (ho _ he)⟩
theorem Stp.unk {r1 : Rho} {s1 : St} {w1 : World} (k : Stp r1 s1 w1 r s w) {y : Nat} (hy : w1.heap.size ≤ y) (hsz : w3.heap.size = w.heap.size) (ho : ∀ x, x ≠ y → w3.heap[x]? = w.heap[x]?) (hos : w3.os = w.os) (htp : w3.tape = w.tape) (hou : w3.output = w.output) : Stp r1 s1 w1 r s w3 :=
  ⟨k.le, hos.trans k.os, htp.trans k.tape, hou.trans k.output, by rw [hsz]; exact k.size, fun x hx hn => (ho x (by omega)).trans (k.keep x hx hn), k.new, k.old⟩
theorem DfOk.unk {lo : Nat} {l : List Deferred} (h : DfOk lo r s w l) {y : Nat} {m : Option Nat} {a1 a3 : Nat} {a2 : Array Nat} (hi : w.heap[y]? = some (.mapIter m a1 a2 a3)) (hsz : w3.heap.size = w.heap.size) (ho : ∀ x, x ≠ y → w3.heap[x]? = w.heap[x]?) : DfOk lo r s w3 l :=
  ⟨by rw [hsz]; exact h.hlo, fun d hd => by
    obtain ⟨D, h1, h0, h2, h3⟩ := h.all d hd
    refine ⟨D, h1, h0, (ho D fun e => ?_).trans h2, h3⟩
    rw [e, hi] at h2
    exact absurd h2 (by simp), h.ne⟩
theorem DfOk.less {lo : Nat} {l : List Deferred} {s' : St} (h : DfOk lo r s w l) (hl : ∀ b, (Hp.get s'.h b).live → (Hp.get s.h b).live) : DfOk lo r s' w l :=
  ⟨h.hlo, fun d hd => by
    obtain ⟨D, h1, h0, h2, h3⟩ := h.all d hd
    exact ⟨D, h1, h0, h2, fun b hb => h3 b (hl b hb)⟩, h.ne⟩
/-- The head of a round. -/
structure LoopAt (NG : Env) (B0 N lo : Nat) (r1 : Rho) (s1 : St) (w1 : World) (b ib itb bm : Nat) (l : AV) (es : Array MapEntry) (cl : Nat) (vis : Array Nat) (fr : Fr) (s : St) (r : Rho) (w : World) (a : Act) : Prop where
  sim : Sim B0 r s w
  stp : Stp r1 s1 w1 r s w
  fra : FrR N r fr a
  df : DfOk lo r s w a.defers
  mp : Hp.get s.h b = .mp l
  hasb : r.has b
  blk : r.blk b = bm
  itr : r.has ib ∧ r.blk ib = itb ∧ r.off ib = 0
  it : w.heap[itb]? = some (.mapIter (some bm) cl vis cl)
  map : w.heap[bm]? = some (.map es cl)
  nit : ∀ b', Hp.get s.h b' ≠ .no → r.blk b' ≠ itb
theorem head_ok {ck : Oper → I → Bool} (hck : ∀ o i, ck o i = true → SndI P NG B0 N C ro o i) {ops1 ops2 : Array Oper} {os1 os2 : List Oper} {o1 o2 : Oper} (e1 : ops1.toList = o1 :: os1) (e2 : ops2.toList = o2 :: os2)
    {xi xc : X} {dnx den : D} {mid post : List I} {v : Operand} (gg1 : o1.guard = none) {p1 : Operand} (hop1 : o1.op = .next p1 false) (k1 : xB NG N p1 xi = true) (d1 : dB o1.dst dnx = true)
    (gg2 : o2.guard = none) {p2 : Operand} (hop2 : o2.op = .entry p2) (k2 : xB NG N p2 xi = true) (d2 : dB o2.dst den = true) (hmid : okL ck N ops1 os1 mid = true) (hpost : okL ck N ops2 os2 post = true) (hv : xB NG N v xc = true)
    {id1 id2 b1 b2 : Nat} {bd : Code} {q : Go.Proofs.YtenpbpgoglepfaaGreatDoor.C} (hbd : CSnd P NG B0 N C ro bd q) {c : CallE} (hc : C c) {lo : Nat} {r1 : Rho} {s1 : St} {w1 : World} (hb1 : Base NG r1) {b ib itb bm : Nat} {l : AV} {es : Array MapEntry} {cl : Nat}
    (hst : MapKept.Stamped es cl) (hitb : w1.heap.size ≤ itb) (hB0 : B0 ≤ w1.heap.size) (hb65 : b < 65536) {Q : Exit → Act → World → Prop} : ∀ (n : Nat) (T : List ((AV × AV) × MapEntry)) (vis : Array Nat) (fr : Fr) (s : St) (r : Rho) (w : World) (a : Act), T.length ≤ n →
    T.map (·.2) = (leftOf es vis).toList → (∀ t ∈ T, Rel r t.1.1 t.2.key ∧ Rel r t.1.2 t.2.val) → LoopAt NG B0 N lo r1 s1 w1 b ib itb bm l es cl vis fr s r w a →
    (∀ out ∈ headM (rmpLast xi dnx mid xc ib c) (rndM xi xc dnx den mid post ib b c (evC q c)) (nextM b1 b2 b l) n (T.map (·.1)) fr s, Post B0 N lo r1 s1 w1 out Q) →
    Code.roundsIn (Wd ro) 0 P (.seq (.region id1 ops1 false) (.seq (.cond v .skip (.exit b1)) (.block b2 (.seq (.region id2 ops2 false) bd)))) (Exit.inBlock b1 Q) (n + 1) a w := by
  intro n
  induction n with
  | zero =>
    intro T vis fr s r w a hlen hT hrel L hp
    obtain rfl : T = [] := List.length_eq_zero_iff.1 (by omega)
    have hp := hp _ (List.mem_singleton.2 rfl)
    rw [roundsIn_succ]
    refine rmp_last hck e1 gg1 hop1 k1 d1 hmid hv hc (hb1.le L.stp.le) L.sim L.fra L.df L.itr.2.2 ?_ (Post.later hp L.stp)
    rw [L.itr.2.1]
    rcases run_next_at (P := P) w o1.type itb bm cl cl vis es cl L.it L.map (fun y hy => hst.1 y hy) (Nat.le_refl _) with ⟨_, h⟩ | ⟨y, hy, _⟩
    · exact h
    · rw [← hT] at hy; cases hy
  | succ n ih =>
    intro T vis fr s r w a hlen hT hrel L hp
    have hb := hb1.le L.stp.le
    cases T with
    | nil =>
      have hp := hp _ (List.mem_singleton.2 rfl)
      rw [roundsIn_succ]
      refine rmp_last hck e1 gg1 hop1 k1 d1 hmid hv hc hb L.sim L.fra L.df L.itr.2.2 ?_ (Post.later hp L.stp)
      rw [L.itr.2.1]
      rcases run_next_at (P := P) w o1.type itb bm cl cl vis es cl L.it L.map (fun y hy => hst.1 y hy) (Nat.le_refl _) with ⟨_, h⟩ | ⟨y, hy, _⟩
      · exact h
      · rw [← hT] at hy; cases hy
    | cons t0 T0 =>
    rcases run_next_at (P := P) w o1.type itb bm cl cl vis es cl L.it L.map (fun y hy => hst.1 y hy) (Nat.le_refl _) with ⟨h, _⟩ | ⟨en, hmem, wd, hwd, hnx⟩
    · have : (leftOf es vis).toList = [] := by rw [← List.length_eq_zero_iff, Array.length_toList]; exact h
      rw [this] at hT
      cases hT
    rw [← hT] at hmem
    obtain ⟨t, ht, rfl⟩ := List.mem_map.1 hmem
    obtain ⟨T1, T2, hTT⟩ := List.append_of_mem ht
    have hp' : ∀ out ∈ nextM b1 b2 b l (headM (rmpLast xi dnx mid xc ib c) (rndM xi xc dnx den mid post ib b c (evC q c)) (nextM b1 b2 b l) n ((T1 ++ T2).map (·.1))) (rndM xi xc dnx den mid post ib b c (evC q c) t.1 fr s), Post B0 N lo r1 s1 w1 out Q := fun out ho => by
      refine hp out ?_
      rw [List.map_cons]
      show out ∈ (splitsA (t0.1 :: T0.map (·.1))).flatMap _
      refine List.mem_flatMap.2 ⟨(t.1, (T1 ++ T2).map (·.1)), ?_, ho⟩
      have : t0.1 :: T0.map (·.1) = T1.map (·.1) ++ t.1 :: T2.map (·.1) := by
        rw [← List.map_cons (f := fun x : (AV × AV) × MapEntry => x.1), hTT, List.map_append, List.map_cons]
      rw [this, List.map_append]
      exact splitsA_mid _ _ _
    clear hp
    have hnod : ((t0 :: T0).map fun x => x.2.born).Nodup := by
      have h1 : ((leftOf es vis).toList.map (·.born)).Nodup := by
        refine hst.2.1.sublist (List.Sublist.map _ ?_)
        unfold leftOf
        rw [Array.toList_filter]
        exact List.filter_sublist
      rw [← hT, List.map_map] at h1
      exact h1
    have hT' : (T1 ++ T2).map (·.2) = (leftOf es (vis.push t.2.born)).toList := by
      have hL : (leftOf es vis).toList = T1.map (·.2) ++ t.2 :: T2.map (·.2) := by rw [← hT, hTT, List.map_append, List.map_cons]
      rw [left_push, hL, filter_mid, List.map_append]
      rw [hTT] at hnod
      simpa [List.map_append, List.map_map, Function.comp_def] using hnod
    have hrel' : ∀ t' ∈ T1 ++ T2, Rel r t'.1.1 t'.2.key ∧ Rel r t'.1.2 t'.2.val := fun t' h' => hrel t' (by
      rw [hTT]
      rcases List.mem_append.1 h' with h | h
      · exact List.mem_append.2 (.inl h)
      · exact List.mem_append.2 (.inr (List.mem_cons_of_mem _ h)))
    obtain ⟨hk, hvv⟩ := hrel t ht
    have hlen' : (T1 ++ T2).length ≤ n := by
      have : (t0 :: T0).length = (T1 ++ t :: T2).length := by rw [hTT]
      simp only [List.length_cons, List.length_append] at this hlen ⊢
      omega
    have hes : t.2 ∈ es.toList := by
      have : t.2 ∈ (leftOf es vis).toList := by rw [← hT]; exact List.mem_map.2 ⟨t, ht, rfl⟩
      unfold leftOf at this
      rw [Array.toList_filter] at this
      exact (List.mem_filter.1 this).1
    -- the iterator goes on
    generalize hw3 : ChangeMaps.setBlock wd itb (.mapIter (some bm) cl (vis.push t.2.born) cl) = w3 at hnx
    have hheap : w3.heap = w.heap.setIfInBounds itb (.mapIter (some bm) cl (vis.push t.2.born) cl) := by
      rw [← hw3]; rcases hwd with rfl | rfl <;> rfl
    have hsz3 : w3.heap.size = w.heap.size := by rw [hheap]; simp
    have hitlt : itb < w.heap.size := (Array.getElem?_eq_some_iff.1 L.it).1
    have ho3 : ∀ x, x ≠ itb → w3.heap[x]? = w.heap[x]? := fun x hx => by
      rw [hheap, Array.getElem?_setIfInBounds, if_neg (Ne.symm hx)]
    have hit3 : w3.heap[itb]? = some (.mapIter (some bm) cl (vis.push t.2.born) cl) := by
      rw [hheap, Array.getElem?_setIfInBounds, if_pos rfl, if_pos hitlt]
    have hbmit : bm ≠ itb := fun e => by
      have := L.map
      rw [e, L.it] at this
      cases this
    have hmap3 : w3.heap[bm]? = some (.map es cl) := (ho3 bm hbmit).trans L.map
    have hety := L.sim.ety
    have hlow := L.sim.low
    have hsv : Sim B0 r s w3 := L.sim.unk L.nit (by have := hety.1; omega) hsz3 ho3
    have hstv : Stp r1 s1 w1 r s w3 := L.stp.unk hitb hsz3 ho3 (by rw [← hw3]; rcases hwd with rfl | rfl <;> rfl) (by rw [← hw3]; rcases hwd with rfl | rfl <;> rfl) (by rw [← hw3]; rcases hwd with rfl | rfl <;> rfl)
    have hdfv : DfOk lo r s w3 a.defers := L.df.unk L.it hsz3 ho3
    -- the map is hidden
    have hlive3 : ∀ b', (Hp.get (Hp.put s.h b .no) b').live → b' ≠ b ∧ (Hp.get s.h b').live := fun b' hl => by
      obtain ⟨n1, e1⟩ := live_no hl
      rw [e1] at hl
      exact ⟨n1, hl⟩
    obtain ⟨s3, hs3e⟩ : ∃ s3, s3 = St.mk (Hp.put s.h b .no) s.n := ⟨_, rfl⟩
    have hs3 : Sim B0 r s3 w3 := by rw [hs3e]; exact hsv.drop b
    have hsub : ∀ b', Hp.get s3.h b' = .no ∨ Hp.get s3.h b' = Hp.get s.h b' := fun b' => by
      rw [hs3e, St.h_mk]
      rcases Hp.get_put s.h b .no b' with e | ⟨_, e⟩ | ⟨_, e⟩
      · exact .inl e
      · exact .inl e
      · exact .inr e
    have hno3 : Hp.get s3.h b = .no := by
      rw [hs3e, St.h_mk, Hp.get_put_lt _ hb65, if_pos rfl]
    have hnlit : ∀ b', (Hp.get s3.h b').live → r.blk b' ≠ itb := fun b' hl => by
      rcases hsub b' with e | e
      · rw [e] at hl; exact hl.elim
      · rw [e] at hl; exact L.nit b' (live_ne hl)
    have hnlm : ∀ b', (Hp.get s3.h b').live → r.blk b' ≠ bm := fun b' hl e => by
      rw [hs3e, St.h_mk] at hl
      obtain ⟨h1, h2⟩ := hlive3 b' hl
      exact h1 (L.sim.inj b' b h2 (by rw [L.mp]; trivial) (by rw [e, L.blk]))
    have kept : ∀ {r' : Rho} {s4 : St} {w4 : World}, Stp r s3 w3 r' s4 w4 → w4.heap[itb]? = some (.mapIter (some bm) cl (vis.push t.2.born) cl) ∧ w4.heap[bm]? = some (.map es cl) := fun k =>
      ⟨(k.keep _ (by omega) hnlit).trans hit3, (k.keep _ (by have := (Array.getElem?_eq_some_iff.1 hmap3).1; exact this) hnlm).trans hmap3⟩
    have back : ∀ {r' : Rho} {s6 : St} {w6 : World}, Sim B0 r' s6 w6 → Stp r s3 w3 r' s6 w6 → Sim B0 r' (mapBack b l s6) w6 ∧ Stp r s w3 r' (mapBack b l s6) w6 := fun {r' s6 w6} k1 k2 => by
      refine hsv.frame hsub k1 k2 rfl fun b' => ?_
      show Hp.get (Hp.put s6.h b (.mp l)) b' = .no ∨ Hp.get (Hp.put s6.h b (.mp l)) b' = Hp.get s6.h b' ∨ (Hp.get (Hp.put s6.h b (.mp l)) b' = Hp.get s.h b' ∧ Hp.get s3.h b' = .no)
      rcases Hp.get_put s6.h b (.mp l) b' with e | ⟨rfl, e⟩ | ⟨_, e⟩
      · exact .inl e
      · exact .inr (.inr ⟨e.trans L.mp.symm, hno3⟩)
      · exact .inr (.inl e)
    have hDf : ∀ {r6 : Rho} {s6 : St} {w6 : World} {l6 : List Deferred}, Stp r s3 w3 r6 s6 w6 → DfOk lo r6 s6 w6 l6 → DfOk lo r6 (mapBack b l s6) w6 l6 := fun {r6 s6 w6 l6} k1 k2 => by
      refine k2.more (kept k1).2 fun b' hl => ?_
      have hl : (Hp.get (Hp.put s6.h b (.mp l)) b').live := hl
      rcases live_put hl with ⟨rfl, _⟩ | ⟨_, e⟩
      · right
        rw [(k1.le.same b' L.hasb).2.1, L.blk]
      · left; rw [e] at hl; exact hl
    rw [roundsIn_succ]
    obtain ⟨y1, y2, y3⟩ := size_cons e1
    obtain ⟨z1, z2, z3⟩ := size_cons e2
    have bad : ∀ {go : Fr → St → List R}, (∀ out ∈ nextM b1 b2 b l go .bad, Post B0 N lo r1 s1 w1 out Q) → False := fun h => h .bad (List.mem_singleton.2 rfl)
    have er : rndM xi xc dnx den mid post ib b c (evC q c) t.1 fr s = rmpIt xi ib fr (evL mid c (D.put dnx (.tup (.cons (.b true) (.cons t.1.1 (.cons t.1.2 .nil)))) fr) s3 fun fr4 s4 =>
      AV.onB (X.ev xc fr4) .bad fun t' => ifB t' (rmpIt xi ib fr4 (evL post c (D.put den (.tup (.cons t.1.1 (.cons t.1.2 .nil))) fr4) s4 (evC q c))) .bad) := by rw [hs3e]; rfl
    rw [er] at hp'
    rcases rmpIt_or xi ib fr (evL mid c (D.put dnx (.tup (.cons (.b true) (.cons t.1.1 (.cons t.1.2 .nil)))) fr) s3 fun fr4 s4 =>
      AV.onB (X.ev xc fr4) .bad fun t' => ifB t' (rmpIt xi ib fr4 (evL post c (D.put den (.tup (.cons t.1.1 (.cons t.1.2 .nil))) fr4) s4 (evC q c))) .bad) with h | ⟨hxit, h⟩
    · rw [h] at hp'; exact (bad hp').elim
    rw [h] at hp'
    have hev : a.eval p1 = .pointer (some ⟨itb, 0, none⟩) := by
      have := xB_rel k1 hb L.fra
      rw [hxit] at this
      rw [this.2, L.itr.2.1, L.itr.2.2]
    rcases snd_l hck hc 1 (D.put dnx (.tup (.cons (.b true) (.cons t.1.1 (.cons t.1.2 .nil)))) fr) s3 hmid y3 with h | ⟨fr4, s4, h, hdo4⟩
    · rw [h] at hp'; exact (bad hp').elim
    rw [h] at hp'
    refine wpIn_seq (wpIn_region ?_)
    rw [y1, range_cons, wpOpsIn_cons]
    refine op_val y2 gg1 (by unfold noDf; rw [hop1]) (by rw [ex_next hop1, hev]; exact run_v hnx) ?_
    refine hdo4 _ _ _ hb hs3 (L.fra.put d1 (by simp only [Rel, RelL]; exact ⟨_, rfl, _, _, rfl, rfl, _, _, rfl, hk, _, _, rfl, hvv, rfl⟩)) _ fun a4 w4 r4 hs4 hst4 hf4 hd4 => ?_
    show (Code.seq (.cond v .skip (.exit b1)) (.block b2 (.seq (.region id2 ops2 false) bd))).wpIn (Wd ro) 0 P _ a4 w4
    have hb4 := hb.le hst4.le
    have hr4 := xB_rel hv hb4 hf4
    cases ht4 : X.ev xc fr4 <;> rw [ht4] at hp' hr4 <;> try exact (bad hp').elim
    rename_i tt
    cases tt with
    | false => exact (bad hp').elim
    | true =>
    replace hp' : ∀ out ∈ nextM b1 b2 b l (headM (rmpLast xi dnx mid xc ib c) (rndM xi xc dnx den mid post ib b c (evC q c)) (nextM b1 b2 b l) n ((T1 ++ T2).map (·.1))) (rmpIt xi ib fr4 (evL post c (D.put den (.tup (.cons t.1.1 (.cons t.1.2 .nil))) fr4) s4 (evC q c))), Post B0 N lo r1 s1 w1 out Q := hp'
    rcases rmpIt_or xi ib fr4 (evL post c (D.put den (.tup (.cons t.1.1 (.cons t.1.2 .nil))) fr4) s4 (evC q c)) with h4 | ⟨hxit4, h4⟩
    · rw [h4] at hp'; exact (bad hp').elim
    rw [h4] at hp'
    refine wpIn_seq (wpIn_cond_true hr4 (wpIn_skip ?_))
    show (Code.block b2 (.seq (.region id2 ops2 false) bd)).wpIn (Wd ro) 0 P _ a4 w4
    refine wpIn_block (wpIn_seq (wpIn_region ?_))
    have hat : ∀ {r' : Rho}, r.Le r' → r'.has ib ∧ r'.blk ib = itb ∧ r'.off ib = 0 := fun k => by
      obtain ⟨q0, q1, q2, _⟩ := k.same ib L.itr.1
      exact ⟨q0, by rw [q1]; exact L.itr.2.1, by rw [q2]; exact L.itr.2.2⟩
    have hev4 : a4.eval p2 = .pointer (some ⟨itb, 0, none⟩) := by
      have := xB_rel k2 hb4 hf4
      rw [hxit4] at this
      rw [this.2, (hat hst4.le).2.1, (hat hst4.le).2.2]
    rcases snd_l hck hc 1 (D.put den (.tup (.cons t.1.1 (.cons t.1.2 .nil))) fr4) s4 hpost z3 with h5 | ⟨fr5, s5, h5, hdo5⟩
    · rw [h5] at hp'; exact (bad hp').elim
    rw [h5] at hp'
    rw [z1, range_cons, wpOpsIn_cons]
    obtain ⟨kit4, kmp4⟩ := kept hst4
    refine op_val z2 gg2 (by unfold noDf; rw [hop2]) (by rw [ex_entry hop2, hev4]; exact run_v (run_entry_at w4 itb bm cl vis es cl t.2 kit4 kmp4 hes hst.2.1)) ?_
    refine hdo5 _ _ _ hb4 hs4 (hf4.put d2 (by simp only [Rel, RelL]; exact ⟨_, rfl, _, _, rfl, hk.le hst4.le, _, _, rfl, hvv.le hst4.le, rfl⟩)) _ fun a5 w5 r5 hs5 hst5 hf5 hd5 => ?_
    show bd.wpIn (Wd ro) 0 P _ a5 w5
    have hst35 := hst4.trans hst5
    have hdf5 : DfOk lo r5 s5 w5 a5.defers := by
      rw [hd5, put_dfr, hd4, put_dfr]
      exact (hdfv.less (s' := s3) fun b' hl => by
        rcases hsub b' with e | e
        · rw [e] at hl; exact hl.elim
        · rw [← e]; exact hl).stp hst35
    refine hbd c hc fr5 s5 r5 w5 a5 lo (hb4.le hst5.le) hs5 hf5 hdf5 _ ?_
    generalize evC q c fr5 s5 = out at hp'
    have more : ∀ fr6 s6, (∀ out ∈ headM (rmpLast xi dnx mid xc ib c) (rndM xi xc dnx den mid post ib b c (evC q c)) (nextM b1 b2 b l) n ((T1 ++ T2).map (·.1)) fr6 (mapBack b l s6), Post B0 N lo r1 s1 w1 out Q) → ∀ a6 w6 r6, Sim B0 r6 s6 w6 → Stp r5 s5 w5 r6 s6 w6 → FrR N r6 fr6 a6 → DfOk lo r6 s6 w6 a6.defers →
        Code.roundsIn (Wd ro) 0 P (.seq (.region id1 ops1 false) (.seq (.cond v .skip (.exit b1)) (.block b2 (.seq (.region id2 ops2 false) bd)))) (Exit.inBlock b1 Q) (n + 1) a6 w6 := fun fr6 s6 hp6 a6 w6 r6 q1 q2 q3 q4 => by
      have hst36 := hst35.trans q2
      obtain ⟨kit6, kmp6⟩ := kept hst36
      obtain ⟨v1, v2⟩ := back q1 hst36
      refine ih (T1 ++ T2) (vis.push t.2.born) fr6 (mapBack b l s6) r6 w6 a6 hlen' hT' (fun t' h' => ⟨(hrel' t' h').1.le hst36.le, (hrel' t' h').2.le hst36.le⟩) ⟨v1, hstv.trans v2, q3, hDf hst36 q4, ?_, (hst36.le.same b L.hasb).1, (hst36.le.same b L.hasb).2.1.trans L.blk, hat hst36.le, kit6, kmp6, fun b' hno => ?_⟩ hp6
      · show Hp.get (Hp.put s6.h b (.mp l)) b = .mp l
        rw [Hp.get_put_lt _ hb65, if_pos rfl]
      · have hno : Hp.get (Hp.put s6.h b (.mp l)) b' ≠ .no := hno
        rcases Hp.get_put s6.h b (.mp l) b' with e | ⟨rfl, e⟩ | ⟨_, e⟩
        · exact absurd e hno
        · rw [(hst36.le.same b' L.hasb).2.1, L.blk]; exact hbmit
        · rw [e] at hno
          by_cases hl : (Hp.get s6.h b').live
          · rcases hst36.old b' hl with ⟨x, hx, e'⟩ | h'
            · rw [← e']; exact hnlit x hx
            · omega
          · have := q1.ok b'
            cases e4 : Hp.get s6.h b' with
            | no => exact absurd e4 hno
            | ro cc => rw [e4] at this; have := this.2.1; omega
            | rw cc => rw [e4] at hl; exact absurd trivial hl
            | mp cc => rw [e4] at hl; exact absurd trivial hl
            | lp cc => rw [e4] at hl; exact absurd trivial hl
    cases out with
    | bad => exact (bad hp').elim
    | nrm fr6 s6 => exact more fr6 s6 hp'
    | rt fr6 s6 =>
      intro a6 w6 r6 q1 q2 q3 q4
      have hst36 := hst35.trans q2
      obtain ⟨v1, v2⟩ := back q1 hst36
      exact hp' _ (List.mem_singleton.2 rfl) a6 w6 r6 v1 (hstv.trans v2) q3 (hDf hst36 q4)
    | ex id fr6 s6 =>
      intro a6 w6 r6 q1 q2 q3 q4
      have hst36 := hst35.trans q2
      obtain ⟨v1, v2⟩ := back q1 hst36
      show (if id = b2 then _ else _)
      replace hp' : ∀ out ∈ ifB (Nat.beq id b2) (headM (rmpLast xi dnx mid xc ib c) (rndM xi xc dnx den mid post ib b c (evC q c)) (nextM b1 b2 b l) n ((T1 ++ T2).map (·.1)) fr6 (mapBack b l s6)) (ifB (Nat.beq id b1) [.nrm fr6 (mapBack b l s6)] [.ex id fr6 (mapBack b l s6)]), Post B0 N lo r1 s1 w1 out Q := hp'
      rcases hj : Nat.beq id b2 with _ | _
      · rw [hj] at hp'
        rw [if_neg (fun e => by rw [e, Nat.beq_refl] at hj; cases hj)]
        show (if id = b1 then Q .normal a6 w6 else Q (.exit id) a6 w6)
        rcases hj1 : Nat.beq id b1 with _ | _
        · rw [hj1] at hp'
          rw [if_neg (fun e => by rw [e, Nat.beq_refl] at hj1; cases hj1)]
          exact hp' _ (List.mem_singleton.2 rfl) a6 w6 r6 v1 (hstv.trans v2) q3 (hDf hst36 q4)
        · rw [hj1] at hp'
          rw [if_pos (Nat.eq_of_beq_eq_true hj1)]
          exact hp' _ (List.mem_singleton.2 rfl) a6 w6 r6 v1 (hstv.trans v2) q3 (hDf hst36 q4)
      · rw [hj] at hp'
        rw [if_pos (Nat.eq_of_beq_eq_true hj)]
        exact more fr6 s6 hp' a6 w6 r6 q1 q2 q3 q4
noncomputable def manyE (x : X) (dit : D) (xi : X) (dnx : D) (mid : List I) (xc : X) (den : D) (post : List I) (b1 b2 : Nat) (bd : CallE → Fr → St → R) (c : CallE) (fr : Fr) (s : St) : List R :=
  ifB (Nat.blt s.n 65536) (match X.ev x fr with
    | .m b => (match Hp.get s.h b with
      | .mp l => (match pairsA l with
        | some ps => headM (rmpLast xi dnx mid xc s.n c) (rndM xi xc dnx den mid post s.n b c (bd c)) (nextM b1 b2 b l) ps.length ps (D.put dit (.p s.n 0) fr) (.mk (Hp.put s.h s.n .no) (Nat.succ s.n))
        | none => [.bad])
      | _ => [.bad])
    | _ => [.bad]) [.bad]
/-- All that code may come to. -/
noncomputable def evN : Go.Proofs.YtenpbpgoglepfaaGreatDoor.C → CallE → Fr → St → List R
  | .seq a b, c, fr, s => (evN a c fr s).flatMap fun r => R.rec (motive := fun _ => List R) [.bad] (fun fr s => evN b c fr s) (fun id fr s => [.ex id fr s]) (fun fr s => [.rt fr s]) r
  | .rmp pre x dit xi dnx mid xc den post b1 b2 q, c, fr, s => R.rec (motive := fun _ => List R) [.bad] (fun fr s => manyE x dit xi dnx mid xc den post b1 b2 (evC q) c fr s) (fun _ _ _ => [.bad]) (fun _ _ => [.bad]) (evL pre c fr s .nrm)
  | q, c, fr, s => [evC q c fr s]
def CSndN (P : Program) (NG : Env) (B0 N : Nat) (C : CallE → Prop) (ro : Option Nat) (x : Code) (q : Go.Proofs.YtenpbpgoglepfaaGreatDoor.C) : Prop :=
  ∀ c, C c → ∀ fr s (r : Rho) (w : World) (a : Act) (lo : Nat), Base NG r → Sim B0 r s w → FrR N r fr a → DfOk lo r s w a.defers → ∀ Q, (∀ out ∈ evN q c fr s, Post B0 N lo r s w out Q) → x.wpIn (Wd ro) 0 P Q a w
theorem csndN_of {x : Code} {q : Go.Proofs.YtenpbpgoglepfaaGreatDoor.C} (h : CSnd P NG B0 N C ro x q) (hq : ∀ c fr s, evN q c fr s = [evC q c fr s]) : CSndN P NG B0 N C ro x q := fun c hc fr s r w a lo hb hs hf hdf Q hp => by
  refine h c hc fr s r w a lo hb hs hf hdf Q (hp _ ?_)
  rw [hq]
  exact List.mem_singleton.2 rfl
theorem csndN_seq {x y : Code} {p q : Go.Proofs.YtenpbpgoglepfaaGreatDoor.C} (h : CSndN P NG B0 N C ro x p) (k : CSndN P NG B0 N C ro y q) : CSndN P NG B0 N C ro (.seq x y) (.seq p q) := fun c hc fr s r w a lo hb hs hf hdf Q hp => by
  refine wpIn_seq (h c hc fr s r w a lo hb hs hf hdf _ fun out ho => ?_)
  have e : evN (.seq p q) c fr s = (evN p c fr s).flatMap fun r => R.rec (motive := fun _ => List R) [.bad] (fun fr s => evN q c fr s) (fun id fr s => [.ex id fr s]) (fun fr s => [.rt fr s]) r := rfl
  rw [e] at hp
  cases out with
  | bad => exact hp .bad (List.mem_flatMap.2 ⟨_, ho, List.mem_singleton.2 rfl⟩)
  | nrm fr' s' => exact fun a' w' r' h1 h2 h3 h4 => k c hc fr' s' r' w' a' lo (hb.le h2.le) h1 h3 h4 Q fun out2 ho2 => Post.later (hp out2 (List.mem_flatMap.2 ⟨_, ho, ho2⟩)) h2
  | ex id fr' s' => exact hp (.ex id fr' s') (List.mem_flatMap.2 ⟨_, ho, List.mem_singleton.2 rfl⟩)
  | rt fr' s' => exact hp (.rt fr' s') (List.mem_flatMap.2 ⟨_, ho, List.mem_singleton.2 rfl⟩)
theorem csndN_rmp {ck : Oper → I → Bool} (hck : ∀ o i, ck o i = true → SndI P NG B0 N C ro o i) {ops0 ops1 ops2 : Array Oper} {os0 os1 os2 : List Oper} {o0 o1 o2 : Oper} (e0 : ops0.toList = os0 ++ [o0]) (e1 : ops1.toList = o1 :: os1) (e2 : ops2.toList = o2 :: os2)
    {x xi xc : X} {dit dnx den : D} {pre mid post : List I} {v : Operand} (h0 : okRng P NG N o0 x dit = true) (h1 : okNxt NG N o1 xi dnx = true) (h2 : okEnt NG N o2 xi den = true) (hpre : okL ck N ops0 os0 pre = true) (hmid : okL ck N ops1 os1 mid = true) (hpost : okL ck N ops2 os2 post = true)
    (hv : xB NG N v xc = true) {id0 id1 id2 b1 b2 : Nat} {bd : Code} {q : Go.Proofs.YtenpbpgoglepfaaGreatDoor.C} (hbd : CSnd P NG B0 N C ro bd q) :
    CSndN P NG B0 N C ro (.seq (.region id0 ops0 false) (.block b1 (.loop (.seq (.region id1 ops1 false) (.seq (.cond v .skip (.exit b1)) (.block b2 (.seq (.region id2 ops2 false) bd))))))) (.rmp pre x dit xi dnx mid xc den post b1 b2 q) := by
  intro c hc fr s r w a lo hb hs hf hdf Q hp
  simp only [okRng, okNxt, okEnt, Bool.and_eq_true] at h0 h1 h2
  obtain ⟨⟨g0, d0⟩, k0⟩ := h0
  obtain ⟨⟨g1, d1⟩, k1⟩ := h1
  obtain ⟨⟨g2, d2⟩, k2⟩ := h2
  have gg0 : o0.guard = none := by cases h : o0.guard <;> simp_all
  have gg1 : o1.guard = none := by cases h : o1.guard <;> simp_all
  have gg2 : o2.guard = none := by cases h : o2.guard <;> simp_all
  split at k0
  case h_2 => cases k0
  rename_i ty p0 hop0
  split at k1
  case h_2 => cases k1
  rename_i p1 hop1
  split at k2
  case h_2 => cases k2
  rename_i p2 hop2
  simp only [Bool.and_eq_true] at k0
  obtain ⟨hx, hty⟩ := k0
  split at hty
  case h_2 => cases hty
  rename_i kt et hun
  obtain ⟨z1, z2, z3⟩ := size_cons e2
  have e : evN (.rmp pre x dit xi dnx mid xc den post b1 b2 q) c fr s = R.rec (motive := fun _ => List R) [.bad] (fun fr s => manyE x dit xi dnx mid xc den post b1 b2 (evC q) c fr s) (fun _ _ _ => [.bad]) (fun _ _ => [.bad]) (evL pre c fr s .nrm) := rfl
  rw [e] at hp
  rcases snd_p hck hc [os0.length] 0 fr s hpre ⟨[o0], by rw [List.drop_zero, e0]⟩ with h | ⟨fr', s', h, hdo⟩
  · rw [h] at hp; exact (hp .bad (List.mem_singleton.2 rfl)).elim
  rw [h] at hp
  replace hp : ∀ out ∈ manyE x dit xi dnx mid xc den post b1 b2 (evC q) c fr' s', Post B0 N lo r s w out Q := hp
  refine wpIn_seq (wpIn_region ?_)
  have hsz0 : ops0.size = os0.length + 1 := by rw [← Array.length_toList, e0, List.length_append]; rfl
  have ho0 : ops0[os0.length]? = some o0 := by rw [← Array.getElem?_toList, e0, List.getElem?_append_right (Nat.le_refl _), Nat.sub_self]; rfl
  rw [hsz0, range_snoc]
  refine hdo r w a hb hs hf _ fun a1 w1 r1 hs1 hst1 hf1 hd1 => ?_
  have hb1 := hb.le hst1.le
  have hdf1 : DfOk lo r1 s' w1 a1.defers := by rw [hd1]; exact hdf.stp hst1
  have hx1 := xB_rel hx hb1 hf1
  have hn : s'.n = r1.n := hs1.n
  have badm : (Post B0 N lo r s w .bad Q) → False := fun h => h
  unfold manyE at hp
  rcases hlim : Nat.blt s'.n 65536 with _ | _
  · rw [hlim] at hp; exact (hp .bad (List.mem_singleton.2 rfl)).elim
  rw [hlim, ifB_true] at hp
  have hlim := blt_lt hlim
  -- the iterator's ghost block
  have hat : (r1.push w1.heap.size 0 0).blk s'.n = w1.heap.size ∧ (r1.push w1.heap.size 0 0).off s'.n = 0 := by rw [hn]; exact ⟨(r1.push_at _ _ _).1, (r1.push_at _ _ _).2.1⟩
  have hrit : Rel (r1.push w1.heap.size 0 0) (.p s'.n 0) (.pointer (some ⟨w1.heap.size, 0, none⟩)) := by
    refine ⟨by rw [hn]; exact r1.push_n _ _ _, ?_⟩
    rw [hat.1, hat.2]
  have enter : ∀ o : Obj, (Instr.range ty (a1.eval p0)).run P w1 = .ok (.pointer (some ⟨w1.heap.size, 0, none⟩)) (w1.alloc o) → (Code.block b1 (.loop (.seq (.region id1 ops1 false) (.seq (.cond v .skip (.exit b1)) (.block b2 (.seq (.region id2 ops2 false) bd)))))).wpIn (Wd ro) 0 P Q (a1.put o0.dst (.pointer (some ⟨w1.heap.size, 0, none⟩))) (w1.alloc o) →
      wpOpsIn (Wd ro) 0 P ops0 (Exit.then ((Code.block b1 (.loop (.seq (.region id1 ops1 false) (.seq (.cond v .skip (.exit b1)) (.block b2 (.seq (.region id2 ops2 false) bd)))))).wpIn (Wd ro) 0 P Q) Q) [os0.length] a1 w1 := fun o hr hw => by
    rw [wpOpsIn_cons]
    refine op_val ho0 gg0 (by unfold noDf; rw [hop0]) (by rw [ex_range hop0]; exact run_v hr) ?_
    exact hw
  have none : ∀ {out : List R}, (∀ o ∈ out, Post B0 N lo r s w o Q) → out = [.bad] → False := fun h e => by
    rw [e] at h
    exact h .bad (List.mem_singleton.2 rfl)
  split at hp
  case h_2 => exact (none hp rfl).elim
  rename_i b hX
  split at hp
  case h_2 => exact (none hp rfl).elim
  rename_i l hg
  split at hp
  case h_2 => exact (none hp rfl).elim
  rename_i ps hps
  rw [hX] at hx1
  obtain ⟨hbh, hpv⟩ := hx1
  rw [hpv] at enter
  have hok := hs1.ok b
  rw [hg] at hok
  obtain ⟨_, hge, es, cl, hm, hrel, hst⟩ := hok
  have hrun := run_range_map (P := P) w1 ty kt et (r1.blk b) es cl hun hm
  have hml : r1.blk b < w1.heap.size := (Array.getElem?_eq_some_iff.1 hm).1
  refine enter _ hrun ?_
  obtain ⟨T, t1, t2, t3⟩ := pairs_rel es.toList l ps hrel hps
  obtain ⟨hs2, hst2⟩ := hs1.it (w3 := w1.alloc (.mapIter (some (r1.blk b)) cl #[] cl)) (by simp) (fun y hy => Below.heap_alloc w1 _ y hy) rfl rfl rfl
  have hlen : ps.length = T.length := by rw [← t1, List.length_map]
  have hbs : b < s'.n := by rw [hn]; exact hs1.lt b hbh
  have hB0 := hs1.low
  refine wpIn_block (wpIn_loop_rounds (T.length + 1) ?_)
  refine head_ok hck e1 e2 gg1 hop1 k1 d1 gg2 hop2 k2 d2 hmid hpost hv hbd hc (hb.le hst1.le) (l := l) (itb := w1.heap.size) (bm := r1.blk b) (s1 := s') (r1 := r1) (w1 := w1) hst (Nat.le_refl _) hB0 (by omega) T.length T #[] (D.put dit (.p s'.n 0) fr') (.mk (Hp.put s'.h s'.n .no) (Nat.succ s'.n)) (r1.push w1.heap.size 0 0) (w1.alloc (.mapIter (some (r1.blk b)) cl #[] cl)) _ (Nat.le_refl _) (by rw [t2]; unfold leftOf; rw [Array.toList_filter]; exact (List.filter_eq_self.2 fun e _ => by simp).symm) (fun t ht => ⟨(t3 t ht).1.le hst2.le, (t3 t ht).2.le hst2.le⟩)
    ⟨hs2, hst2, (hf1.le hst2.le).put d0 hrit, by rw [put_dfr]; exact hdf1.stp hst2, ?_, (hst2.le.same b hbh).1, (hst2.le.same b hbh).2.1, ⟨by rw [hn]; exact r1.push_n _ _ _, hat.1, hat.2⟩, heap_alloc_new _ _, by rw [heap_alloc_old _ _ hml, hm], fun b' hno => ?_⟩ fun out ho => ?_
  · show Hp.get (Hp.put s'.h s'.n .no) b = .mp l
    rw [Hp.get_put_lt _ hlim, if_neg (by omega), hg]
  · have hno : Hp.get (Hp.put s'.h s'.n .no) b' ≠ .no := hno
    rcases Hp.get_put s'.h s'.n .no b' with e | ⟨_, e⟩ | ⟨_, e⟩
    · exact absurd e hno
    · exact absurd e hno
    · rw [e] at hno
      obtain ⟨q1, q2⟩ := (hs1.ok b').lt hno
      rw [(hst2.le.same b' q1).2.1]
      omega
  · refine Post.later (hp out ?_) hst1
    rw [hlen, ← t1]
    exact ho
end
section
variable {P : Program} {NG : Env} {B0 N : Nat}
theorem snd_ckN {mt : Mt} (hk : Kn P mt) {ckD : Nat → Array Oper → C → Bool} (hD : ∀ (E : Env) (ro : Option Nat) N id ops l, E.ng = NG.ng → ckD N ops l = true → CSnd P E B0 N (CAll P E B0) ro (.region id ops true) l) :
    ∀ {top : Bool} {N : Nat} {x : Code} {c : C}, ckC P NG mt ckD top N x c = true → ∀ (E : Env) (ro : Option Nat), E.ng = NG.ng → (top = true → ro = none) → CSndN P E B0 N (CAll P E B0) ro x c := by
  intro top N x c h
  have h0 := fun E ro hE ht => snd_ckC (B0 := B0) hk hD h E ro hE ht
  revert h0
  fun_induction ckC P NG.ng mt ckD top N x c with
  | case5 top N a b c d ih1 ih2 =>
    simp only [Bool.and_eq_true] at h
    exact fun _ E ro hE ht => csndN_seq (ih1 h.1 (fun E ro hE ht => snd_ckC hk hD h.1 E ro hE ht) E ro hE ht) (ih2 h.2 (fun E ro hE ht => snd_ckC hk hD h.2 E ro hE ht) E ro hE ht)
  | case12 top N id0 ops0 i id1 ops1 v i' j id2 ops2 bd pre x dit xi dnx mid xc den post b1 b2 q ih =>
    simp only [Bool.and_eq_true] at h
    obtain ⟨h1, h2, h3, h4, h5, h6, h7, h8⟩ := h
    obtain rfl := Nat.eq_of_beq_eq_true h1
    obtain rfl := Nat.eq_of_beq_eq_true h2
    obtain rfl := Nat.eq_of_beq_eq_true h3
    split at h5
    case h_2 => cases h5
    rename_i o0 rs0 e0
    split at h6
    case h_2 => cases h6
    rename_i o1 os1 e1
    split at h7
    case h_2 => cases h7
    rename_i o2 os2 e2
    simp only [Bool.and_eq_true] at h5 h6 h7
    have e0' : ops0.toList = rs0.reverse ++ [o0] := by rw [← List.reverse_reverse ops0.toList, e0, List.reverse_cons]
    intro _ E ro hE ht
    have hbd := snd_ckC hk hD h8 E ro hE ht
    rw [← hE] at h4 h5 h6 h7
    exact csndN_rmp (fun o i h => snd_cj hk h) e0' e1 e2 h5.1 h6.1 h7.1 h5.2 h6.2 h7.2 h4 hbd
  | case13 top N x c =>
    intro h0 E ro hE ht
    unfold isBad at h
    split at h
    · exact csndN_of (h0 E ro hE ht) fun _ _ _ => rfl
    · cases h
  | _ => exact fun h0 E ro hE ht => csndN_of (h0 E ro hE ht) fun _ _ _ => rfl
/-- A call of a function with such a loop. -/
theorem fnN_x {mt : Mt} (hk : Kn P mt) {ckD : Nat → Array Oper → C → Bool} (hD : ∀ (E : Env) (ro : Option Nat) N id ops l, E.ng = NG.ng → ckD N ops l = true → CSnd P E B0 N (CAll P E B0) ro (.region id ops true) l) {g : Nat} {fn : Func} (hg : P.funcs[g]? = some fn) {nt : Nat} {body : C} {res : List RV} (h : ckF P NG mt ckD fn (.x nt body res) = true)
    {ih : CallE} (hih : CAll P NG B0 ih) {ar v : AV} {s : St} {D : St → Prop} (hle : Nat.ble (lenL ar) nt = true) (hall : ∀ out ∈ evN body ih (inFr ar) s, ∃ s', finE res out = .ok v s' ∧ D s') {r : Rho} {w : World} {args : Array Value} (hb : Base NG r) (hs : Sim B0 r s w) (hr : RelL r ar args.toList) :
    CallsF P g args w fun x w' => ∃ r' s', Rel r' v x ∧ Sim B0 r' s' w' ∧ Stp r s w r' s' w' ∧ D s' := by
  simp only [ckF, Bool.and_eq_true, Bool.not_eq_true'] at h
  obtain ⟨⟨⟨⟨hc, h16⟩, hnt⟩, hres⟩, hname⟩ := h
  have h16 := Nat.le_of_ble_eq_true h16
  have hnt := Nat.le_of_ble_eq_true hnt
  split at hc
  case h_2 => cases hc
  rename_i code hbody
  have hle := Nat.le_of_ble_eq_true hle
  refine .inl ⟨?_, (callsIn_wide (n := 0)).1 (callsIn_of_wp_marks (F := Wd none) hg hbody trivial ?_ rfl)⟩
  · have hn : ¬ fn.name = "runtime.NumGoroutine" := by simpa using hname
    unfold callFunc
    simp [hg, hn, hbody]
  · refine snd_ckN hk hD hc NG none rfl (fun _ => rfl) ih hih (inFr ar) s r w _ w.heap.size hb hs (frame_in hr hle h16 hnt) (DfOk.nil (Nat.le_refl _)) _ fun out ho => ?_
    obtain ⟨s', hrun, hd⟩ := hall out ho
    have fin : ∀ fr2 s2, evRVs res fr2 s2 (fun l => .ok (oneOr l) s2) = .ok v s' → ∀ (a' : Act) (w' : World) (r' : Rho), Sim B0 r' s2 w' → Stp r s w r' s2 w' → FrR fn.ntmps r' fr2 a' → DfOk w.heap.size r' s2 w' a'.defers →
        LeavesInM (Wd none) 0 P fn a'.tmps (fun e w' => ∃ x, e = .returned x ∧ ∃ r' s', Rel r' v x ∧ Sim B0 r' s' w' ∧ Stp r s w r' s' w' ∧ D s') a'.defers .returning w' := fun fr2 s2 he a' w' r' h1 h2 h3 h4 => by
      rcases rvs_ok (B0 := B0) (fr := fr2) (s := s2) hres with k1 | ⟨av, k1, k2⟩
      · rw [k1] at he; cases he
      · rw [k1] at he
        cases he
        refine leaves_df h4 h1 h2 fun w'' g1 g2 => ?_
        obtain ⟨us, u1, u2⟩ := k2 r' w'' a' g1 h3
        exact ⟨_, results_ok u1, _, rfl, r', _, oneOr_rel u2, g1, g2, hd⟩
    cases out with
    | bad => cases hrun
    | nrm fr2 s2 => exact fun a' w' r' h1 h2 h3 h4 => fin fr2 s2 hrun a' w' r' h1 h2 h3 h4
    | ex id fr2 s2 => cases hrun
    | rt fr2 s2 => exact fun a' w' r' h1 h2 h3 h4 => fin fr2 s2 hrun a' w' r' h1 h2 h3 h4
end
noncomputable def allR (p : R → Bool) (l : List R) : Bool := List.rec (motive := fun _ => Bool) true (fun r _ ih => ifB (p r) ih false) l
theorem allR_mem {p : R → Bool} {r : R} : ∀ {l : List R}, allR p l = true → r ∈ l → p r = true
  | [], _, hm => by cases hm
  | a :: l, h, hm => by
    obtain ⟨h1, h2⟩ := ifB_and (show ifB (p a) (allR p l) false = true from h)
    rcases List.mem_cons.1 hm with rfl | hm
    · exact h1
    · exact allR_mem h2 hm
noncomputable def manF (f : Fn) (c : CallE) (ar : AV) (s : St) (p : RC → Bool) : Bool := Fn.rec (motive := fun _ => Bool) (fun nt body res => ifB (Nat.ble (lenL ar) nt) (allR (fun out => p (finE res out)) (evN body c (inFr ar) s)) false) (fun _ => false) false f
section
variable {rows : List (Nat × Rw)}
theorem manF_ok {E : Env} {B0 : Nat} (hE : E.ng = 18) (hrows : RowsOk E B0 rows) {k g : Nat} {fn : Func} (hg : Tryz.prog.funcs[g]? = some fn) {f : Fn} (hck : ckF Tryz.prog 18 mt0 (ckDD Tryz.prog 18 mt0) fn f = true) {ar v : AV} {s : St} {p : RC → Bool} {D : St → Prop} (h : manF f (evF (tabW rows) k) ar s p = true)
    (hp : ∀ o, p o = true → ∃ s', o = .ok v s' ∧ D s') {r : Rho} {w : World} {args : Array Value} (hb : Base E r) (hs : Sim B0 r s w) (hr : RelL r ar args.toList) :
    CallsF Tryz.prog g args w fun x w' => ∃ r' s', Rel r' v x ∧ Sim B0 r' s' w' ∧ Stp r s w r' s' w' ∧ D s' := by
  cases f with
  | pr _ => cases hck
  | no => cases hck
  | x nt body res =>
    obtain ⟨h1, h2⟩ := ifB_and (show ifB (Nat.ble (lenL ar) nt) (allR (fun out => p (finE res out)) (evN body (evF (tabW rows) k) (inFr ar) s)) false = true from h)
    exact fnN_x (NG := E) (mt := mt0) kn_ok (ckD := ckDD Tryz.prog E.ng mt0) (fun E' ro N id ops l he h => snd_dd mixed_ok kn_ok E' ro N id ops l he h) hg (by rw [hE]; exact hck) (evalW_ok hE hrows k) h1 (fun out ho => hp _ (allR_mem h2 ho)) hb hs hr
theorem entry_many {k g n n' : Nat} {ar v : AV} {lu lc l' : BL} {fn : Func} {f : Fn} (hg : Tryz.prog.funcs[g]? = some fn) (hck : ckF Tryz.prog 18 mt0 (ckDD Tryz.prog 18 mt0) fn f = true) (hrows : ∀ (E : Env) (B0 : Nat), E.ng = 18 → RowsOk E B0 rows)
    (h : manF f (evF (tabW rows) k) ar (stE n lu lc) (fun o => entB o lu v n' l') = true) : EntOk g (.mk ar n lu lc v n' l') := fun E B0 hE r w args hb hs hr =>
  manF_ok hE (hrows E B0 hE) hg hck (D := fun s' => s'.n = n' ∧ inH s'.h lu = true ∧ inH s'.h l' = true) h (fun o ho => by
    cases o with
    | bad => cases ho
    | ok v' s' =>
      obtain ⟨q1, ho⟩ := ifB_and (show ifB (sameA v' v) (ifB (Nat.beq s'.n n') (ifB (inH s'.h lu) (inH s'.h l') false) false) false = true from ho)
      obtain ⟨q2, ho⟩ := ifB_and ho
      obtain ⟨q3, q4⟩ := ifB_and ho
      exact ⟨s', by rw [sameA_eq q1], Nat.eq_of_beq_eq_true q2, q3, q4⟩) hb hs hr
noncomputable def loB (lu : BL) (v : AV) (l' : BL) (o : RC) : Bool := RC.rec (motive := fun _ => Bool) false (fun v' s' => ifB (sameA v' v) (ifB (inH s'.h lu) (inH s'.h l') false) false) o
noncomputable def manL (n : Nat) (ar : AV) (lu lc : BL) (v : AV) (l' : BL) (x : Bool) : Bool := ifB (Nat.ble 34 n) (ifB (belA n ar) (ifB (belL n lu) (ifB (belL n lc) (ifB (belA n v) (ifB (belL n l') x false) false) false) false) false) false
theorem entry_manyL {k g n : Nat} {ar v : AV} {lu lc l' : BL} {fn : Func} {f : Fn} (hg : Tryz.prog.funcs[g]? = some fn) (hck : ckF Tryz.prog 18 mt0 (ckDD Tryz.prog 18 mt0) fn f = true) (hrows : ∀ (E : Env) (B0 : Nat), E.ng = 18 → RowsOk E B0 rows)
    (h : manL n ar lu lc v l' (manF f (evF (tabW rows) k) ar (stE n lu lc) (loB lu v l')) = true) : EntOk g (.lo ar n lu lc v l') := by
  obtain ⟨q1, h⟩ := ifB_and h
  obtain ⟨q2, h⟩ := ifB_and h
  obtain ⟨q3, h⟩ := ifB_and h
  obtain ⟨q4, h⟩ := ifB_and h
  obtain ⟨q5, h⟩ := ifB_and h
  obtain ⟨q6, h⟩ := ifB_and h
  refine ⟨⟨Nat.le_of_ble_eq_true q1, q2, q3, q4, q5, q6⟩, fun E B0 hE r w args hb hs hr => ?_⟩
  exact manF_ok hE (hrows E B0 hE) hg hck (D := fun s' => inH s'.h lu = true ∧ inH s'.h l' = true) h (fun o ho => by
    cases o with
    | bad => cases ho
    | ok v' s' =>
      obtain ⟨q1, ho⟩ := ifB_and (show ifB (sameA v' v) (ifB (inH s'.h lu) (inH s'.h l') false) false = true from ho)
      obtain ⟨q3, q4⟩ := ifB_and ho
      exact ⟨s', by rw [sameA_eq q1], q3, q4⟩) hb hs hr
end
theorem ckHeld : ckF Tryz.prog 18 mt0 (ckDD Tryz.prog 18 mt0) Tryz.f145 xf145 = true := by kernel_rfl
theorem ckNow : ckF Tryz.prog 18 mt0 (ckDD Tryz.prog 18 mt0) Tryz.f144 xf144 = true := by kernel_rfl
end Go.Proofs.YtenpbpgoglepfaaGreatDoor
