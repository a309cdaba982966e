/- errors.As over an error within errors, at a variable of type *api.Fault (after the worked example ToyasAs). No condition. -/
import Derived.Test.YtplegaadljbhoaaDoorChain
namespace Go.Proofs.YtplegaadljbhoaaDoor
open Go.RowKit Go.Extern.Stop Go.Stop Go.Extern
set_option linter.unusedVariables false
set_option maxRecDepth 100000

theorem Tryd.valueOfP (t : Addr) (w : World) : (ReflectliteValue.unpack (.iface 35 (.pointer (some t)))).run Tryd.prog w
    = .ok (.agg #[.pointer (some ⟨17, 35, none⟩), .pointer (some ⟨w.heap.size, 0, none⟩), .int .u64 150]) (w.alloc (.cells #[.pointer (some t)] 35)) := by kernel_rfl
theorem Tryd.typeP (a : Addr) (w : World) : (ReflectliteValue.methodAny (ReflectliteValue.valueError "reflectlite.Value.Type" 0) (fun t _ _ _ => ReflectliteType.toType t) #[.agg #[.pointer (some ⟨17, 35, none⟩), .pointer (some a), .int .u64 150]]).run Tryd.prog w
    = .ok (.iface 72 (.agg #[.pointer (some ⟨17, 35, none⟩)])) w := by kernel_rfl
theorem Tryd.methodKind (h : Value) (w : World) : (Go.method 214 72 (.agg #[h]) "Kind").run Tryd.prog w = .ok (47, h) w := by kernel_rfl
theorem Tryd.kindP (w : World) : ((ReflectliteType.abiMethod fun t => (fun a : Nat => Value.int IntKind.u8 (a : Int)) <$> Rtype.kind t) #[.pointer (some ⟨17, 35, none⟩)]).run Tryd.prog w = .ok (.int .u8 22) w := by kernel_rfl
theorem Tryd.kindF (w : World) : ((ReflectliteType.abiMethod fun t => (fun a : Nat => Value.int IntKind.u8 (a : Int)) <$> Rtype.kind t) #[.pointer (some ⟨17, 33, none⟩)]).run Tryd.prog w = .ok (.int .u8 22) w := by kernel_rfl
theorem rlm (z : Sem Value) (f : TypeId → Addr → Nat → Nat → Sem Value) (v : Value) :
    ReflectliteValue.method z f #[v] = (do match ← ReflectliteValue.parts v with | none => z | some (t, a, fl) => f t a fl (fl % 32)) := rfl
theorem Tryd.partsP (a : Addr) (w : World) : (ReflectliteValue.parts (.agg #[.pointer (some ⟨17, 35, none⟩), .pointer (some a), .int .u64 150])).run Tryd.prog w = .ok (some (35, a, 150)) w := by kernel_rfl
theorem Tryd.isNilP (a p : Addr) (W : World) (ha : W.cell? a = some (.pointer (some p))) :
    (ReflectliteValue.method (ReflectliteValue.valueError "reflectlite.Value.IsNil" 0) ReflectliteValue.isNil #[.agg #[.pointer (some ⟨17, 35, none⟩), .pointer (some a), .int .u64 150]]).run Tryd.prog W = .ok (.bool false) W := by
  rw [rlm]
  simp only [Sem.run_bind, Tryd.partsP, Result.andThen]
  simp [ReflectliteValue.isNil, loadVar, isAgg, underlying, Tryd.underlying35, ha, Result.andThen]
theorem Tryd.methodElem (h : Value) (w : World) : (Go.method 214 72 (.agg #[h]) "Elem").run Tryd.prog w = .ok (60, .agg #[h]) w := by kernel_rfl
theorem Tryd.methodImplements (h : Value) (w : World) : (Go.method 214 72 (.agg #[h]) "Implements").run Tryd.prog w = .ok (61, .agg #[h]) w := by kernel_rfl
theorem Tryd.methodAssignableTo (h : Value) (w : World) : (Go.method 214 72 (.agg #[h]) "AssignableTo").run Tryd.prog w = .ok (58, .agg #[h]) w := by kernel_rfl
theorem Tryd.elemP (w : World) : (ReflectliteType.method ReflectliteType.elem #[.agg #[.pointer (some ⟨17, 35, none⟩)]]).run Tryd.prog w = .ok (.iface 72 (.agg #[.pointer (some ⟨17, 33, none⟩)])) w := by kernel_rfl
theorem Tryd.implementsF (w : World) : (ReflectliteType.relation "Implements" ReflectliteType.implements_ #[.agg #[.pointer (some ⟨17, 33, none⟩)], .iface 72 (.agg #[.pointer (some ⟨17, 24, none⟩)])]).run Tryd.prog w = .ok (.bool true) w := by kernel_rfl
theorem Tryd.typeOfF (v : Value) (w : World) : (ReflectliteType.typeOf #[.iface 33 v]).run Tryd.prog w = .ok (.iface 72 (.agg #[.pointer (some ⟨17, 33, none⟩)])) w := by kernel_rfl
theorem Tryd.typeOfW (v : Value) (w : World) : (ReflectliteType.typeOf #[.iface 48 v]).run Tryd.prog w = .ok (.iface 72 (.agg #[.pointer (some ⟨17, 48, none⟩)])) w := by kernel_rfl
theorem Tryd.assignF (w : World) : (ReflectliteType.relation "AssignableTo" ReflectliteType.assignableTo #[.agg #[.pointer (some ⟨17, 33, none⟩)], .iface 72 (.agg #[.pointer (some ⟨17, 33, none⟩)])]).run Tryd.prog w = .ok (.bool true) w := by kernel_rfl
theorem Tryd.assignW (w : World) : (ReflectliteType.relation "AssignableTo" ReflectliteType.assignableTo #[.agg #[.pointer (some ⟨17, 48, none⟩)], .iface 72 (.agg #[.pointer (some ⟨17, 33, none⟩)])]).run Tryd.prog w = .ok (.bool false) w := by kernel_rfl
theorem Tryd.assignE (w : World) : (ReflectliteType.relation "AssignableTo" ReflectliteType.assignableTo #[.agg #[.pointer (some ⟨17, 68, none⟩)], .iface 72 (.agg #[.pointer (some ⟨17, 33, none⟩)])]).run Tryd.prog w = .ok (.bool false) w := by kernel_rfl
theorem Tryd.valueOfF (e : Addr) (w : World) : (ReflectliteValue.unpack (.iface 33 (.pointer (some e)))).run Tryd.prog w
    = .ok (.agg #[.pointer (some ⟨17, 33, none⟩), .pointer (some ⟨w.heap.size, 0, none⟩), .int .u64 150]) (w.alloc (.cells #[.pointer (some e)] 33)) := by kernel_rfl
theorem Tryd.elemOfP (w : World) : (Rtype.elem? 35).run Tryd.prog w = .ok (some 33) w := by kernel_rfl
theorem Tryd.mkF (p : Addr) (w : World) : (ReflectliteValue.mk 33 p ReflectliteValue.flagAddr).run Tryd.prog w = .ok (.agg #[.pointer (some ⟨17, 33, none⟩), .pointer (some p), .int .u64 406]) w := by kernel_rfl
theorem Tryd.elemVP (a p : Addr) (W : World) (ha : W.cell? a = some (.pointer (some p))) :
    (ReflectliteValue.method (ReflectliteValue.valueError "reflectlite.Value.Elem" 0) ReflectliteValue.elem #[.agg #[.pointer (some ⟨17, 35, none⟩), .pointer (some a), .int .u64 150]]).run Tryd.prog W
      = .ok (.agg #[.pointer (some ⟨17, 33, none⟩), .pointer (some p), .int .u64 406]) W := by
  rw [rlm]
  simp only [Sem.run_bind, Tryd.partsP, Result.andThen]
  simp [ReflectliteValue.elem, loadVar, isAgg, underlying, Tryd.underlying35, ha, Result.andThen, Tryd.elemOfP, Tryd.mkF]
theorem rls (v x : Value) : ReflectliteValue.set #[v, x] = (do
    let (some (dst, a, fl), some (src, b, _)) := (← ReflectliteValue.parts v, ← ReflectliteValue.parts x)
      | unsupported (.noEntry "extern/(internal/reflectlite.Value).Set.zeroValue")
    if fl / ReflectliteValue.flagAddr % 2 == 0 then unsupported (.noEntry "extern/(internal/reflectlite.Value).Set.unaddressable")
    let val ← loadVar src b
    if ← Rtype.directlyAssignable dst src then storeVar dst a val
    else if ← Rtype.implements dst src then
      if (← Rtype.kind src) == 20 then
        match val with
        | .nilIface => unsupported (.noEntry "extern/reflectlite: a nil value of one interface type handed on as a value of another")
        | _ => storeVar dst a val
      else storeVar dst a (.iface src val)
    else panicString ("reflectlite.Set: value of type " ++ (← Rtype.spelt src) ++ " is not assignable to type " ++ (← Rtype.spelt dst))
    pure (.tuple #[])) := rfl
theorem Tryd.partsFa (a : Addr) (w : World) : (ReflectliteValue.parts (.agg #[.pointer (some ⟨17, 33, none⟩), .pointer (some a), .int .u64 406])).run Tryd.prog w = .ok (some (33, a, 406)) w := by kernel_rfl
theorem Tryd.partsF (a : Addr) (w : World) : (ReflectliteValue.parts (.agg #[.pointer (some ⟨17, 33, none⟩), .pointer (some a), .int .u64 150])).run Tryd.prog w = .ok (some (33, a, 150)) w := by kernel_rfl
theorem Tryd.directF (w : World) : (Rtype.directlyAssignable 33 33).run Tryd.prog w = .ok true w := by kernel_rfl
theorem Tryd.setF (ta b e : Addr) (old : Value) (W : World) (hb : W.cell? b = some (.pointer (some e))) (ht : W.cell? ta = some old) (hf : W.frozen? ta = false) :
    (ReflectliteValue.set #[.agg #[.pointer (some ⟨17, 33, none⟩), .pointer (some ta), .int .u64 406], .agg #[.pointer (some ⟨17, 33, none⟩), .pointer (some b), .int .u64 150]]).run Tryd.prog W
      = .ok (.tuple #[]) (W.setCell ta (.pointer (some e))) := by
  rw [rls]
  simp only [Sem.run_bind, Tryd.partsFa, Tryd.partsF, Result.andThen]
  simp [ReflectliteValue.flagAddr, loadVar, isAgg, underlying, Tryd.underlying33, hb, Result.andThen, Tryd.directF, storeVar, Value.cells, storeCells, Addr.add]
  rw [run_store Tryd.prog W ta _ _ (by rfl)]
  simp [ht, hf]
theorem Tryd.noAsW (v : Value) (xT : TypeId) (w : World) : (Instr.typeAssert (.iface 48 v) xT 76 true).run Tryd.prog w = .ok (.tuple #[.nilIface, .bool false]) w := run_typeAssert_lacksB Tryd.underlying76 (by kernel_rfl) (by kernel_rfl) v xT w
theorem Tryd.noAsE (v : Value) (xT : TypeId) (w : World) : (Instr.typeAssert (.iface 68 v) xT 76 true).run Tryd.prog w = .ok (.tuple #[.nilIface, .bool false]) w := run_typeAssert_lacksB Tryd.underlying76 (by kernel_rfl) (by kernel_rfl) v xT w

/-- The outermost fault. -/
def EC.hit : EC → Option Nat
  | .base _ => none
  | .wrap _ _ e => e.hit
  | .fault g _ _ _ _ => some g
def AsRel (A : Nat → Addr) (w : World) (r : Option Nat) (v : Value) : Prop := ∃ e : EC, v = e.val A ∧ e.At A w w.heap.size ∧ e.hit = r ∧ ¬ e.isNil
def AsPost (t : Nat) (w w' : World) (r : Option Nat) : Ending → Prop := fun e =>
  match r with
  | none => e = .returned (.bool false) ∧ Below w.heap.size w w'
  | some g => e = .returned (.bool true) ∧ w.grownBy w' (some t) ∧ Blk w' t 33 #[.pointer (some ⟨g, 0, none⟩)]

set_option maxHeartbeats 1000000 in
theorem as_in (A : Nat → Addr) (e : EC) (t a : Nat) (w : World) (h : e.At A w w.heap.size) (hn : ¬ e.isNil) (ht : Blk w t 33 #[.pointer none]) (ha : Blk w a 35 #[.pointer (some ⟨t, 0, none⟩)]) :
    Calls Tryd.prog 27 #[e.val A, .iface 35 (.pointer (some ⟨t, 0, none⟩)), .agg #[.pointer (some ⟨17, 35, none⟩), .pointer (some ⟨a, 0, none⟩), .int .u64 150], .iface 72 (.agg #[.pointer (some ⟨17, 33, none⟩)])] w
      fun ev w' => AsPost t w w' e.hit ev := by
  have h6 := @run_callFunc_extern Tryd.prog 24 _ (fun args => ReflectliteValue.unpack (args.getD 0 (.tuple #[]))) Tryd.func24 (by kernel_rfl) (by kernel_rfl) (by kernel_rfl) (by kernel_rfl)
  have h10 := @run_callFunc_extern Tryd.prog 28 _ ReflectliteType.typeOf Tryd.func28 (by kernel_rfl) (by kernel_rfl) (by kernel_rfl) (by kernel_rfl)
  have h35 := @run_callFunc_extern Tryd.prog 58 _ (ReflectliteType.relation "AssignableTo" ReflectliteType.assignableTo) Tryd.func58 (by kernel_rfl) (by kernel_rfl) (by kernel_rfl) (by kernel_rfl)
  have h11 := @run_callFunc_extern Tryd.prog 31 _ (ReflectliteValue.method (ReflectliteValue.valueError "reflectlite.Value.Elem" 0) ReflectliteValue.elem) Tryd.func31 (by kernel_rfl) (by kernel_rfl) (by kernel_rfl) (by kernel_rfl)
  have h12 := @run_callFunc_extern Tryd.prog 32 _ ReflectliteValue.set Tryd.func32 (by kernel_rfl) (by kernel_rfl) (by kernel_rfl) (by kernel_rfl)
  have tF := Tryd.typeOfF
  have tW := Tryd.typeOfW
  have tE := Tryd.isTypeOf
  have mA := Tryd.methodAssignableTo
  have aF := Tryd.assignF
  have aW := Tryd.assignW
  have aE := Tryd.assignE
  have vF := Tryd.valueOfF
  have uE := Tryd.noUnwrapE
  have vE := Tryd.noUnwrapsE
  have nAW := Tryd.noAsW
  have nAE := Tryd.noAsE
  have hW := Tryd.hasW
  have mW := Tryd.unwrapW
  obtain ⟨r, hr⟩ : ∃ r, e.hit = r := ⟨_, rfl⟩
  rw [hr]
  obtain ⟨T0, u0, hv0⟩ := EC.val_iface (A := A) (w := w) (B := 0) hn
  have HR0 : Hid (ChainRel A w e.root (.iface T0 u0)) := ⟨e, hv0.symm, h, rfl, hn⟩
  have HT := Lib.hid ht
  have HA := Lib.hid ha
  have HAt : Hid (AsRel A w r (.iface T0 u0)) := ⟨e, hv0.symm, h, hr, hn⟩
  rw [hv0]
  clear h hn hr hv0 ht ha HR0
  go_enter Tryd.func27, Tryd.ntmps27
  go_upto_region 1 with (fail)
  obtain ⟨vv, hvv⟩ : ∃ vv, vv = Value.agg #[.pointer (some ⟨17, 35, none⟩), .pointer (some ⟨a, 0, none⟩), .int .u64 150] := ⟨_, rfl⟩
  go_loop [0] (AsRel A w r) (fun v => chainM v)
  case atStart => exact HAt.out
  case round =>
    obtain ⟨e1, rfl, hat, hr1, hn1⟩ := hrel
    cases e1 with
    | base q =>
      have hq0 : 0 < q := Nat.pos_of_ne_zero hn1
      have hrn : none = r := hr1
      subst hrn
      simp only [EC.val, errV_pos A hq0] at *
      go_wp2_with fail
      go_ret
      exact ⟨rfl, (Below.refl _ _).alloc (Nat.le_refl _) _⟩
    | wrap g s e2 =>
      obtain ⟨hg, hblk, hn2, hat2⟩ := hat
      obtain ⟨T2, u2, hv2⟩ := EC.val_iface (A := A) (w := w) (B := 0) hn2
      have HM : Hid (chainM (.iface T2 u2) < g + 1) := by rw [← hv2]; exact EC.m_lt hat2
      have HR2 : Hid (AsRel A w r (.iface T2 u2)) := ⟨e2, hv2.symm, hat2.more (by omega), hr1, hn2⟩
      rw [hv2] at hblk
      have c1 := (hblk.alloc (.cells #[.pointer (some ⟨17, 35, none⟩), .pointer (some ⟨a, 0, none⟩), .int .u64 150] 54)).cell 1
      simp only [EC.val] at *
      clear hat2 hn2 hv2 hr1 hblk
      go_wp2_with fail
      refine (unwrapW_any g _ _ c1).mono ?_
      rintro e w1 ⟨rfl, rfl⟩
      go_wp2_with fail
      go_round
      case rel => exact HR2.out
      case measure => simpa [chainM] using HM.out
    | fault g o c s e2 =>
      have hrg : some g = r := hr1
      subst hrg
      simp only [EC.val] at *
      have el := Tryd.elemVP ⟨a, 0, none⟩ ⟨t, 0, none⟩ (w.alloc (.cells #[.pointer (some ⟨17, 35, none⟩), .pointer (some ⟨a, 0, none⟩), .int .u64 150] 54)) ((HA.out.alloc _).cell 0)
      have hT2 := (HT.out.alloc (.cells #[.pointer (some ⟨17, 35, none⟩), .pointer (some ⟨a, 0, none⟩), .int .u64 150] 54)).alloc (.cells #[.pointer (some ⟨g, 0, none⟩)] 33)
      have st := Tryd.setF ⟨t, 0, none⟩ ⟨w.heap.size + 1, 0, none⟩ ⟨g, 0, none⟩ (.pointer none) _ (by
        have := (Blk.new (w.alloc (.cells #[.pointer (some ⟨17, 35, none⟩), .pointer (some ⟨a, 0, none⟩), .int .u64 150] 54)) 33 #[.pointer (some ⟨g, 0, none⟩)])
        rw [World.size_alloc] at this
        exact this.cell 0) (hT2.cell 0) (hT2.frozen 0)
      go_wp2_with fail
      go_ret
      exact ⟨rfl, only_set (only_alloc (only_alloc (only_refl _ _) _) _) 0 _, hT2.set_ 0 _⟩
end Go.Proofs.YtplegaadljbhoaaDoor
