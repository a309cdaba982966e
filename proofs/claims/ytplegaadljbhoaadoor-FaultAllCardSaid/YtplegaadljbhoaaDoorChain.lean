/- An error within errors: how it stands in memory; errors.Is over it. No condition. -/
import Derived.Test.YtplegaadljbhoaaDoorKind
import Derived.Test.YtplegaadljbhoaaDoorPl
import Derived.Deep.CutBlock
import Derived.Deep.CutRange
namespace Go.Proofs.YtplegaadljbhoaaDoor
open Go.RowKit Go.Extern.Stop Go.Stop Go.Extern
set_option linter.unusedVariables false
set_option maxRecDepth 100000

inductive EC where
  | base (k : Nat)
  | wrap (g : Nat) (s : ByteArray) (e : EC)
  | fault (g : Nat) (o c : Int) (s : ByteArray) (e : EC)
def EC.val (A : Nat → Addr) : EC → Value
  | .base k => errV A k
  | .wrap g _ _ => .iface 48 (.pointer (some ⟨g, 0, none⟩))
  | .fault g _ _ _ _ => .iface 33 (.pointer (some ⟨g, 0, none⟩))
def EC.isNil : EC → Prop
  | .base k => k = 0
  | _ => False
def EC.root : EC → Nat
  | .base k => k
  | .wrap _ _ e => e.root
  | .fault _ _ _ _ e => e.root
def EC.At (A : Nat → Addr) (w : World) (B : Nat) : EC → Prop
  | .base k => k ≤ 16
  | .wrap g s e => g < B ∧ Blk w g 50 #[.string s, e.val A] ∧ ¬ e.isNil ∧ e.At A w g
  | .fault g o c s e => g < B ∧ Blk w g 30 #[.int .i64 o, .int .i64 c, .string s, e.val A] ∧ e.At A w g
theorem EC.At.below {A : Nat → Addr} {w w' : World} : ∀ {e : EC} {B B' : Nat}, e.At A w B → B ≤ B' → Below B' w w' → e.At A w' B
  | .base _, _, _, h, _, _ => h
  | .wrap _ _ _, _, _, ⟨h1, h2, h3, h4⟩, hB, hb => ⟨h1, h2.below hb (by omega), h3, h4.below (by omega) hb⟩
  | .fault _ _ _ _ _, _, _, ⟨h1, h2, h4⟩, hB, hb => ⟨h1, h2.below hb (by omega), h4.below (by omega) hb⟩
theorem EC.At.more {A : Nat → Addr} {w : World} : ∀ {e : EC} {B B' : Nat}, e.At A w B → B ≤ B' → e.At A w B'
  | .base _, _, _, h, _ => h
  | .wrap _ _ _, _, _, ⟨h1, h2, h3, h4⟩, hB => ⟨by omega, h2, h3, h4⟩
  | .fault _ _ _ _ _, _, _, ⟨h1, h2, h4⟩, hB => ⟨by omega, h2, h4⟩
theorem EC.val_iface {A : Nat → Addr} {w : World} {B : Nat} : ∀ {e : EC}, ¬ e.isNil → ∃ T v, e.val A = .iface T v
  | .base k, h => ⟨_, _, errV_pos A (Nat.pos_of_ne_zero h)⟩
  | .wrap _ _ _, _ => ⟨_, _, rfl⟩
  | .fault _ _ _ _ _, _ => ⟨_, _, rfl⟩
def chainM (v : Value) : Nat :=
  match v with
  | .iface T (.pointer (some a)) => if T = 68 then 0 else a.block + 1
  | _ => 0
theorem EC.m_lt {A : Nat → Addr} {w : World} : ∀ {e : EC} {g : Nat}, e.At A w g → chainM (e.val A) < g + 1
  | .base k, _, _ => by
    show chainM (errV A k) < _
    rcases Nat.eq_zero_or_pos k with rfl | h
    · rw [errV_zero]; simp [chainM]
    · rw [errV_pos A h]; simp [chainM]
  | .wrap _ _ _, _, ⟨h1, _⟩ => by simp [EC.val, chainM]; omega
  | .fault _ _ _ _ _, _, ⟨h1, _⟩ => by simp [EC.val, chainM]; omega

theorem Tryd.noIsW (v : Value) (xT : TypeId) (w : World) : (Instr.typeAssert (.iface 48 v) xT 82 true).run Tryd.prog w = .ok (.tuple #[.nilIface, .bool false]) w := run_typeAssert_lacksB Tryd.underlying82 (by kernel_rfl) (by kernel_rfl) v xT w
theorem Tryd.noIsF (v : Value) (xT : TypeId) (w : World) : (Instr.typeAssert (.iface 33 v) xT 82 true).run Tryd.prog w = .ok (.tuple #[.nilIface, .bool false]) w := run_typeAssert_lacksB Tryd.underlying82 (by kernel_rfl) (by kernel_rfl) v xT w
theorem Tryd.hasW (v : Value) (xT : TypeId) (w : World) : (Instr.typeAssert (.iface 48 v) xT 79 true).run Tryd.prog w = .ok (.tuple #[.iface 48 v, .bool true]) w := run_typeAssert_hasB Tryd.underlying79 (by kernel_rfl) v xT w
theorem Tryd.hasF (v : Value) (xT : TypeId) (w : World) : (Instr.typeAssert (.iface 33 v) xT 79 true).run Tryd.prog w = .ok (.tuple #[.iface 33 v, .bool true]) w := run_typeAssert_hasB Tryd.underlying79 (by kernel_rfl) v xT w
theorem Tryd.unwrapW (v : Value) (w : World) : (Go.method 214 48 v "Unwrap").run Tryd.prog w = .ok (52, v) w := by kernel_rfl
theorem Tryd.unwrapF (v : Value) (w : World) : (Go.method 214 33 v "Unwrap").run Tryd.prog w = .ok (50, v) w := by kernel_rfl

theorem unwrapW_any (g : Nat) (v : Value) (w : World) (c : w.cell? ⟨g, 1, none⟩ = some v) : Calls Tryd.prog 52 #[.pointer (some ⟨g, 0, none⟩)] w fun e w' => e = .returned v ∧ w = w' := by
  go_enter Tryd.func52, Tryd.ntmps52
  go_wp2
  go_ret
  exact ⟨rfl, rfl⟩
theorem unwrapF_any (g : Nat) (v : Value) (w : World) (c : w.cell? ⟨g, 3, none⟩ = some v) : Calls Tryd.prog 50 #[.pointer (some ⟨g, 0, none⟩)] w fun e w' => e = .returned v ∧ w = w' := by
  go_enter Tryd.func50, Tryd.ntmps50
  go_wp2
  go_ret
  exact ⟨rfl, rfl⟩
def ChainRel (A : Nat → Addr) (w : World) (r : Nat) (v : Value) : Prop := ∃ e : EC, v = e.val A ∧ e.At A w w.heap.size ∧ e.root = r ∧ ¬ e.isNil

set_option maxHeartbeats 800000 in
theorem is_in (A : Nat → Addr) (e : EC) (k : Nat) (hk1 : 1 ≤ k) (hk2 : k ≤ 16) (w : World) (hE : Errs w w.heap.size allErrs A) (h : e.At A w w.heap.size) (hn : ¬ e.isNil) :
    Calls Tryd.prog 29 #[e.val A, .iface 68 (.pointer (some (A k))), .bool true] w fun ev w' => ev = .returned (.bool (decide (e.root = k))) ∧ w = w' := by
  obtain ⟨i, hi, hcmp⟩ := Option.map_eq_some_iff.1 Tryd.isComp
  obtain ⟨j, hj, hjs⟩ := Option.map_eq_some_iff.1 Tryd.isSize
  obtain ⟨r, hr⟩ : ∃ r, e.root = r := ⟨_, rfl⟩
  rw [hr]
  obtain ⟨T0, u0, hv0⟩ := EC.val_iface (A := A) (w := w) (B := 0) hn
  have HR0 : Hid (ChainRel A w r (.iface T0 u0)) := ⟨e, hv0.symm, h, hr, hn⟩
  rw [hv0]
  have HE := Lib.hid hE
  clear hE h hn hr hv0
  have nE := Tryd.noIsE
  have uE := Tryd.noUnwrapE
  have vE := Tryd.noUnwrapsE
  have nW := Tryd.noIsW
  have nF := Tryd.noIsF
  have hW := Tryd.hasW
  have hF := Tryd.hasF
  have mW := Tryd.unwrapW
  have mF := Tryd.unwrapF
  go_enter Tryd.func29, Tryd.ntmps29
  go_wp2_with fail
  go_loop [0] (ChainRel A w r) (fun v => chainM v)
  case atStart => exact HR0.out
  case round =>
    obtain ⟨e1, rfl, hat, hr1, hn1⟩ := hrel
    cases e1 with
    | base q =>
      have hq : q ≤ 16 := hat
      have hq0 : 0 < q := Nat.pos_of_ne_zero hn1
      have hrq : q = r := hr1
      subst hrq
      simp only [EC.val, errV_pos A hq0] at *
      by_cases hqk : q = k
      · subst hqk
        have heq := run_eql_iface_ptr_same (P := Tryd.prog) w (A q) Tryd.underlying24 Tryd.underlying68 hi hcmp hj
        go_wp2_with fail
        go_ret
        exact ⟨by simp, rfl⟩
      · obtain ⟨_, _, _, _, ⟨c1, t1, h5⟩, _⟩ := HE.out.1 q (mem_all q (by omega) hq)
        obtain ⟨_, _, _, _, ⟨c2, t2, h6⟩, _⟩ := HE.out.1 k (mem_all k hk1 hk2)
        have hne : A q ≠ A k := fun h => hqk (HE.out.2 q (mem_all q (by omega) hq) k (mem_all k hk1 hk2) h)
        have heq := run_eql_iface_ptr_other (P := Tryd.prog) w Tryd.underlying24 Tryd.underlying68 hi hcmp hj (by rw [hjs]; decide) hne h5 h6
        go_wp2_with fail
        go_ret
        exact ⟨by simp [hqk], rfl⟩
    | wrap g s e2 =>
      obtain ⟨hg, hblk, hn2, hat2⟩ := hat
      have hty := run_eql_iface_types (P := Tryd.prog) 48 68 (.pointer (some ⟨g, 0, none⟩)) (.pointer (some (A k))) Tryd.underlying24 (by decide) w
      obtain ⟨T2, u2, hv2⟩ := EC.val_iface (A := A) (w := w) (B := 0) hn2
      have HM : Hid (chainM (.iface T2 u2) < g + 1) := by rw [← hv2]; exact EC.m_lt hat2
      have HR2 : Hid (ChainRel A w r (.iface T2 u2)) := ⟨e2, hv2.symm, hat2.more (by omega), hr1, hn2⟩
      rw [hv2] at hblk
      have c1 : w.cell? ⟨g, 1, none⟩ = some (.iface T2 u2) := hblk.cell 1
      simp only [EC.val] at *
      clear hat2 hn2 hv2 hr1 hblk
      go_wp2_with fail
      refine (unwrapW_any g _ w c1).mono ?_
      rintro e w1 ⟨rfl, rfl⟩
      go_wp2_with fail
      go_round
      case rel => exact HR2.out
      case measure => simpa [chainM] using HM.out
    | fault g o c s e2 =>
      obtain ⟨hg, hblk, hat2⟩ := hat
      have hty := run_eql_iface_types (P := Tryd.prog) 33 68 (.pointer (some ⟨g, 0, none⟩)) (.pointer (some (A k))) Tryd.underlying24 (by decide) w
      by_cases hn2 : e2.isNil
      · cases e2 with
        | base q =>
          have hq : q = 0 := hn2
          subst hq
          have hr0 : 0 = r := hr1
          subst hr0
          have c1 : w.cell? ⟨g, 3, none⟩ = some .nilIface := hblk.cell 3
          have hk0 : ¬ (0 = k) := by omega
          simp only [EC.val] at *
          go_wp2_with fail
          refine (unwrapF_any g _ w c1).mono ?_
          rintro e w1 ⟨rfl, rfl⟩
          go_wp2_with fail
          go_ret
          exact ⟨by simp [hk0], rfl⟩
        | wrap _ _ _ => exact absurd hn2 (by simp [EC.isNil])
        | fault _ _ _ _ _ => exact absurd hn2 (by simp [EC.isNil])
      · obtain ⟨T2, u2, hv2⟩ := EC.val_iface (A := A) (w := w) (B := 0) hn2
        have HM : Hid (chainM (.iface T2 u2) < g + 1) := by rw [← hv2]; exact EC.m_lt hat2
        have HR2 : Hid (ChainRel A w r (.iface T2 u2)) := ⟨e2, hv2.symm, hat2.more (by omega), hr1, hn2⟩
        rw [hv2] at hblk
        have c1 : w.cell? ⟨g, 3, none⟩ = some (.iface T2 u2) := hblk.cell 3
        simp only [EC.val] at *
        clear hat2 hn2 hv2 hr1 hblk
        go_wp2_with fail
        refine (unwrapF_any g _ w c1).mono ?_
        rintro e w1 ⟨rfl, rfl⟩
        go_wp2_with fail
        go_round
        case rel => exact HR2.out
        case measure => simpa [chainM] using HM.out
end Go.Proofs.YtplegaadljbhoaaDoor
