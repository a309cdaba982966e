/- errors.Is, fault.Is, fault.Kind over an error within errors. No condition. -/
import Derived.Test.YtplegaadljbhoaaDoorChain
namespace Go.Proofs.YtplegaadljbhoaaDoor
open Go.RowKit Go.Extern.Stop Go.Stop Go.Extern
set_option linter.unusedVariables false
set_option maxRecDepth 100000

theorem EC.At.root_le {A : Nat → Addr} {w : World} : ∀ {e : EC} {B : Nat}, e.At A w B → e.root ≤ 16
  | .base _, _, h => h
  | .wrap _ _ _, _, ⟨_, _, _, h4⟩ => h4.root_le
  | .fault _ _ _ _ _, _, ⟨_, _, h4⟩ => h4.root_le
set_option maxHeartbeats 400000 in
theorem is_any (A : Nat → Addr) (e : EC) (k : Nat) (hk1 : 1 ≤ k) (hk2 : k ≤ 16) (w : World) (hE : Errs w w.heap.size allErrs A) (h : e.At A w w.heap.size) (hn : ¬ e.isNil) :
    Calls Tryd.prog 16 #[e.val A, .iface 68 (.pointer (some (A k)))] w fun ev w' => ev = .returned (.bool (decide (e.root = k))) ∧ w = w' := by
  have h8 := @run_callFunc_extern Tryd.prog 28 _ Extern.ReflectliteType.typeOf Tryd.func28 (by kernel_rfl) (by kernel_rfl) (by kernel_rfl) (by kernel_rfl)
  have tT := Tryd.isTypeOf
  have cT := Tryd.isComparable
  have mR := Tryd.isMethodComparable
  obtain ⟨T0, u0, hv0⟩ := EC.val_iface (A := A) (w := w) (B := 0) hn
  have HI := is_in A e k hk1 hk2 w hE h hn
  rw [hv0] at HI ⊢
  have HI := Lib.hid HI
  clear hE h hn hv0
  go_enter Tryd.func16, Tryd.ntmps16
  go_wp2_with fail
  refine HI.out.mono ?_
  rintro ev w1 ⟨rfl, rfl⟩
  go_wp2_with fail
  go_ret
  exact ⟨rfl, rfl⟩
theorem fis_any (A : Nat → Addr) (e : EC) (k : Nat) (hk1 : 1 ≤ k) (hk2 : k ≤ 16) (w : World) (hE : Errs w w.heap.size allErrs A) (h : e.At A w w.heap.size) (hn : ¬ e.isNil) :
    Calls Tryd.prog 18 #[e.val A, .iface 68 (.pointer (some (A k)))] w fun ev w' => ev = .returned (.bool (decide (e.root = k))) ∧ w = w' := by
  have HI := Lib.hid (is_any A e k hk1 hk2 w hE h hn)
  clear hE h hn
  generalize e.val A = v at HI ⊢
  go_enter Tryd.func18, Tryd.ntmps18
  go_wp2_with fail
  refine HI.out.mono ?_
  rintro ev w1 ⟨rfl, rfl⟩
  go_wp2_with fail
  go_ret
  exact ⟨rfl, rfl⟩
set_option maxHeartbeats 400000 in
theorem kinds_any (A : Nat → Addr) (w : World) (hE : Errs w w.heap.size allErrs A) :
    Calls Tryd.prog 30 #[] w fun e w' => e = .returned (.slice (some ⟨w.heap.size, 0, none⟩) 16 16) ∧ Blk w' w.heap.size 24 (errCells A) ∧ Below w.heap.size w w' := by
  have c1 : w.cell? ⟨0, 0, none⟩ = some (.iface 68 (.pointer (some (A 1)))) := hE.var (mem_all 1 (by omega) (by omega))
  have c2 : w.cell? ⟨2, 0, none⟩ = some (.iface 68 (.pointer (some (A 2)))) := hE.var (mem_all 2 (by omega) (by omega))
  have c3 : w.cell? ⟨3, 0, none⟩ = some (.iface 68 (.pointer (some (A 3)))) := hE.var (mem_all 3 (by omega) (by omega))
  have c4 : w.cell? ⟨4, 0, none⟩ = some (.iface 68 (.pointer (some (A 4)))) := hE.var (mem_all 4 (by omega) (by omega))
  have c5 : w.cell? ⟨5, 0, none⟩ = some (.iface 68 (.pointer (some (A 5)))) := hE.var (mem_all 5 (by omega) (by omega))
  have c6 : w.cell? ⟨6, 0, none⟩ = some (.iface 68 (.pointer (some (A 6)))) := hE.var (mem_all 6 (by omega) (by omega))
  have c7 : w.cell? ⟨7, 0, none⟩ = some (.iface 68 (.pointer (some (A 7)))) := hE.var (mem_all 7 (by omega) (by omega))
  have c8 : w.cell? ⟨8, 0, none⟩ = some (.iface 68 (.pointer (some (A 8)))) := hE.var (mem_all 8 (by omega) (by omega))
  have c9 : w.cell? ⟨9, 0, none⟩ = some (.iface 68 (.pointer (some (A 9)))) := hE.var (mem_all 9 (by omega) (by omega))
  have c10 : w.cell? ⟨1, 0, none⟩ = some (.iface 68 (.pointer (some (A 10)))) := hE.var (mem_all 10 (by omega) (by omega))
  have c11 : w.cell? ⟨10, 0, none⟩ = some (.iface 68 (.pointer (some (A 11)))) := hE.var (mem_all 11 (by omega) (by omega))
  have c12 : w.cell? ⟨11, 0, none⟩ = some (.iface 68 (.pointer (some (A 12)))) := hE.var (mem_all 12 (by omega) (by omega))
  have c13 : w.cell? ⟨12, 0, none⟩ = some (.iface 68 (.pointer (some (A 13)))) := hE.var (mem_all 13 (by omega) (by omega))
  have c14 : w.cell? ⟨13, 0, none⟩ = some (.iface 68 (.pointer (some (A 14)))) := hE.var (mem_all 14 (by omega) (by omega))
  have c15 : w.cell? ⟨14, 0, none⟩ = some (.iface 68 (.pointer (some (A 15)))) := hE.var (mem_all 15 (by omega) (by omega))
  have c16 : w.cell? ⟨15, 0, none⟩ = some (.iface 68 (.pointer (some (A 16)))) := hE.var (mem_all 16 (by omega) (by omega))
  clear hE
  go_enter Tryd.func30, Tryd.ntmps30
  go_wp2
  go_ret
  exact ⟨rfl, Blk.new _ _ _, (Below.refl _ _).alloc (Nat.le_refl _) _⟩
def kindR (e : EC) : Nat := if e.root = 0 then 17 else e.root
theorem fkind_nil (w : World) : Calls Tryd.prog 17 #[.nilIface] w fun ev w' => ev = .returned (.int .i64 0) ∧ w = w' := by
  go_enter Tryd.func17, Tryd.ntmps17
  go_wp2
  go_ret
  exact ⟨rfl, rfl⟩
def KindRel (r : Nat) (v : Value) : Prop := ∃ i : Nat, i ≤ 16 ∧ v = .int .i64 i ∧ ∀ j, 1 ≤ j → j ≤ i → r ≠ j
set_option maxHeartbeats 800000 in
theorem fkind_any (A : Nat → Addr) (e : EC) (w : World) (hE : Errs w w.heap.size allErrs A) (h : e.At A w w.heap.size) (hn : ¬ e.isNil) :
    Calls Tryd.prog 17 #[e.val A] w fun ev w' => ev = .returned (.int .i64 (kindR e)) ∧ Below w.heap.size w w' := by
  obtain ⟨T0, u0, hv0⟩ := EC.val_iface (A := A) (w := w) (B := 0) hn
  have hroot := h.root_le
  have HI : Hid (∀ (k : Nat) (w2 : World), 1 ≤ k → k ≤ 16 → Below w.heap.size w w2 → Calls Tryd.prog 16 #[.iface T0 u0, .iface 68 (.pointer (some (A k)))] w2 fun ev w' => ev = .returned (.bool (decide (e.root = k))) ∧ w2 = w') := by
    intro k w2 hk1 hk2 hb
    have := is_any A e k hk1 hk2 w2 (hE.to hb hb.size) ((h.below (Nat.le_refl _) hb).more hb.size) hn
    rw [hv0] at this
    exact this
  have HE := Lib.hid hE
  have hkr : kindR e = if e.root = 0 then 17 else e.root := rfl
  rw [hv0]
  generalize e.root = r at hroot HI hkr
  generalize kindR e = q at hkr ⊢
  have HQ := Lib.hid hkr
  clear hE h hn hv0 hkr
  go_enter Tryd.func17, Tryd.ntmps17
  go_wp2_with fail
  refine (kinds_any A w HE.out).mono ?_
  rintro ev w1 ⟨rfl, hblk, hb1⟩
  have HB1 := Lib.hid hb1
  have HBW : Hid (Below w.heap.size w w1) := hb1
  have HK := Lib.hid hblk
  clear hb1 hblk
  obtain ⟨g, hg⟩ : ∃ g, g = w.heap.size := ⟨_, rfl⟩
  rw [← hg] at HK HB1 HI
  rw [← hg]
  have HGE := Lib.hid hg
  clear hg
  go_wp2_with fail
  go_loop [11] (KindRel r) (fun v => 16 - (intOf v).toNat)
  case atStart => exact ⟨0, by omega, rfl, fun j h1 h2 => by omega⟩
  case round =>
    obtain ⟨i, hi, rfl, hno⟩ := hrel
    have HNO := Lib.hid hno
    clear hno
    by_cases hlt : i < 16
    · have hd : decide ((i : Int) < 16) = true := by simp; omega
      have hcell : w1.cell? ⟨g, i, none⟩ = some (.iface 68 (.pointer (some (A (i + 1))))) := (HK.out.cell i).trans (errCells_at A i hlt)
      go_wp2_with fail
      refine (HI.out (i + 1) w1 (by omega) (by omega) HB1.out).mono ?_
      rintro ev w2 ⟨rfl, rfl⟩
      by_cases hr : r = i + 1
      · have hd2 : decide (r = i + 1) = true := by simpa using hr
        rw [hd2]
        go_wp2_with fail
        go_ret
        refine ⟨?_, HBW.out⟩
        rw [HQ.out, if_neg (by omega), hr]
        rfl
      · have hd2 : decide (r = i + 1) = false := by simpa using hr
        rw [hd2]
        go_wp2_with fail
        go_round
        case rel => exact ⟨i + 1, by omega, by go_num, fun j h1 h2 => by
          by_cases hj : j = i + 1
          · rw [hj]; exact hr
          · exact HNO.out j h1 (by omega)⟩
        case measure => simp [intOf]; omega
    · have hi16 : i = 16 := by omega
      subst hi16
      go_wp2_with fail
      go_ret
      refine ⟨?_, HBW.out⟩
      have : r = 0 := by
        rcases Nat.eq_zero_or_pos r with h | h
        · exact h
        · exact absurd rfl (HNO.out r h hroot)
      rw [HQ.out, if_pos this]
      rfl
end Go.Proofs.YtplegaadljbhoaaDoor
