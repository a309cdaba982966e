/- tableaulaw00.Kind: an error's number: of nil 0, of each error of package api its own. No condition but that the sixteen errors stand in memory. -/
import Derived.Test.YtagjmkgbfbaekaaDoorIs
namespace Go.Proofs.YtagjmkgbfbaekaaDoor
open Go.RowKit

def allErrs : List Nat := [1, 2, 3, 4, 5, 6, 7, 8, 9, 10, 11, 12, 13, 14, 15, 16]
theorem mem_all (k : Nat) (h1 : 1 ≤ k) (h2 : k ≤ 16) : k ∈ allErrs := by
  simp only [allErrs, List.mem_cons, List.not_mem_nil]; omega
def errCells (A : Nat → Addr) : Array Value := #[.iface 120 (.pointer (some (A 1))), .iface 120 (.pointer (some (A 2))), .iface 120 (.pointer (some (A 3))), .iface 120 (.pointer (some (A 4))), .iface 120 (.pointer (some (A 5))), .iface 120 (.pointer (some (A 6))), .iface 120 (.pointer (some (A 7))), .iface 120 (.pointer (some (A 8))), .iface 120 (.pointer (some (A 9))), .iface 120 (.pointer (some (A 10))), .iface 120 (.pointer (some (A 11))), .iface 120 (.pointer (some (A 12))), .iface 120 (.pointer (some (A 13))), .iface 120 (.pointer (some (A 14))), .iface 120 (.pointer (some (A 15))), .iface 120 (.pointer (some (A 16)))]
theorem errCells_at (A : Nat → Addr) (i : Nat) (h : i < 16) : (errCells A)[i]? = some (.iface 120 (.pointer (some (A (i + 1))))) := by
  have : i = 0 ∨ i = 1 ∨ i = 2 ∨ i = 3 ∨ i = 4 ∨ i = 5 ∨ i = 6 ∨ i = 7 ∨ i = 8 ∨ i = 9 ∨ i = 10 ∨ i = 11 ∨ i = 12 ∨ i = 13 ∨ i = 14 ∨ i = 15 := by omega
  rcases this with rfl | rfl | rfl | rfl | rfl | rfl | rfl | rfl | rfl | rfl | rfl | rfl | rfl | rfl | rfl | rfl <;> rfl

set_option maxHeartbeats 1600000 in
theorem kind_nil (A : Nat → Addr) (w : World) (hE : Errs w w.heap.size allErrs A) :
    Calls Tryd.prog 23 #[.nilIface] w fun e w' => e = .returned (.int .i64 0) ∧ Below w.heap.size w w' := by
  have c1 : w.cell? ⟨0, 0, none⟩ = some (.iface 120 (.pointer (some (A 1)))) := hE.var (mem_all 1 (by omega) (by omega))
  have c2 : w.cell? ⟨3, 0, none⟩ = some (.iface 120 (.pointer (some (A 2)))) := hE.var (mem_all 2 (by omega) (by omega))
  have c3 : w.cell? ⟨4, 0, none⟩ = some (.iface 120 (.pointer (some (A 3)))) := hE.var (mem_all 3 (by omega) (by omega))
  have c4 : w.cell? ⟨5, 0, none⟩ = some (.iface 120 (.pointer (some (A 4)))) := hE.var (mem_all 4 (by omega) (by omega))
  have c5 : w.cell? ⟨6, 0, none⟩ = some (.iface 120 (.pointer (some (A 5)))) := hE.var (mem_all 5 (by omega) (by omega))
  have c6 : w.cell? ⟨7, 0, none⟩ = some (.iface 120 (.pointer (some (A 6)))) := hE.var (mem_all 6 (by omega) (by omega))
  have c7 : w.cell? ⟨8, 0, none⟩ = some (.iface 120 (.pointer (some (A 7)))) := hE.var (mem_all 7 (by omega) (by omega))
  have c8 : w.cell? ⟨2, 0, none⟩ = some (.iface 120 (.pointer (some (A 8)))) := hE.var (mem_all 8 (by omega) (by omega))
  have c9 : w.cell? ⟨1, 0, none⟩ = some (.iface 120 (.pointer (some (A 9)))) := hE.var (mem_all 9 (by omega) (by omega))
  have c10 : w.cell? ⟨9, 0, none⟩ = some (.iface 120 (.pointer (some (A 10)))) := hE.var (mem_all 10 (by omega) (by omega))
  have c11 : w.cell? ⟨10, 0, none⟩ = some (.iface 120 (.pointer (some (A 11)))) := hE.var (mem_all 11 (by omega) (by omega))
  have c12 : w.cell? ⟨11, 0, none⟩ = some (.iface 120 (.pointer (some (A 12)))) := hE.var (mem_all 12 (by omega) (by omega))
  have c13 : w.cell? ⟨12, 0, none⟩ = some (.iface 120 (.pointer (some (A 13)))) := hE.var (mem_all 13 (by omega) (by omega))
  have c14 : w.cell? ⟨13, 0, none⟩ = some (.iface 120 (.pointer (some (A 14)))) := hE.var (mem_all 14 (by omega) (by omega))
  have c15 : w.cell? ⟨14, 0, none⟩ = some (.iface 120 (.pointer (some (A 15)))) := hE.var (mem_all 15 (by omega) (by omega))
  have c16 : w.cell? ⟨15, 0, none⟩ = some (.iface 120 (.pointer (some (A 16)))) := hE.var (mem_all 16 (by omega) (by omega))
  clear hE
  go_enter Tryd.func23, Tryd.ntmps23
  go_wp2
  go_ret
  exact ⟨rfl, (Below.refl _ _).alloc (Nat.le_refl _) _⟩

set_option maxHeartbeats 1600000 in
theorem kind_err (A : Nat → Addr) (k : Nat) (h1 : 1 ≤ k) (h2 : k ≤ 16) (w : World) (hE : Errs w w.heap.size allErrs A) :
    Calls Tryd.prog 23 #[.iface 120 (.pointer (some (A k)))] w fun e w' => e = .returned (.int .i64 k) ∧ Below w.heap.size w w' := by
  have c1 : w.cell? ⟨0, 0, none⟩ = some (.iface 120 (.pointer (some (A 1)))) := hE.var (mem_all 1 (by omega) (by omega))
  have c2 : w.cell? ⟨3, 0, none⟩ = some (.iface 120 (.pointer (some (A 2)))) := hE.var (mem_all 2 (by omega) (by omega))
  have c3 : w.cell? ⟨4, 0, none⟩ = some (.iface 120 (.pointer (some (A 3)))) := hE.var (mem_all 3 (by omega) (by omega))
  have c4 : w.cell? ⟨5, 0, none⟩ = some (.iface 120 (.pointer (some (A 4)))) := hE.var (mem_all 4 (by omega) (by omega))
  have c5 : w.cell? ⟨6, 0, none⟩ = some (.iface 120 (.pointer (some (A 5)))) := hE.var (mem_all 5 (by omega) (by omega))
  have c6 : w.cell? ⟨7, 0, none⟩ = some (.iface 120 (.pointer (some (A 6)))) := hE.var (mem_all 6 (by omega) (by omega))
  have c7 : w.cell? ⟨8, 0, none⟩ = some (.iface 120 (.pointer (some (A 7)))) := hE.var (mem_all 7 (by omega) (by omega))
  have c8 : w.cell? ⟨2, 0, none⟩ = some (.iface 120 (.pointer (some (A 8)))) := hE.var (mem_all 8 (by omega) (by omega))
  have c9 : w.cell? ⟨1, 0, none⟩ = some (.iface 120 (.pointer (some (A 9)))) := hE.var (mem_all 9 (by omega) (by omega))
  have c10 : w.cell? ⟨9, 0, none⟩ = some (.iface 120 (.pointer (some (A 10)))) := hE.var (mem_all 10 (by omega) (by omega))
  have c11 : w.cell? ⟨10, 0, none⟩ = some (.iface 120 (.pointer (some (A 11)))) := hE.var (mem_all 11 (by omega) (by omega))
  have c12 : w.cell? ⟨11, 0, none⟩ = some (.iface 120 (.pointer (some (A 12)))) := hE.var (mem_all 12 (by omega) (by omega))
  have c13 : w.cell? ⟨12, 0, none⟩ = some (.iface 120 (.pointer (some (A 13)))) := hE.var (mem_all 13 (by omega) (by omega))
  have c14 : w.cell? ⟨13, 0, none⟩ = some (.iface 120 (.pointer (some (A 14)))) := hE.var (mem_all 14 (by omega) (by omega))
  have c15 : w.cell? ⟨14, 0, none⟩ = some (.iface 120 (.pointer (some (A 15)))) := hE.var (mem_all 15 (by omega) (by omega))
  have c16 : w.cell? ⟨15, 0, none⟩ = some (.iface 120 (.pointer (some (A 16)))) := hE.var (mem_all 16 (by omega) (by omega))
  have HE := Lib.hid hE
  clear hE
  go_enter Tryd.func23, Tryd.ntmps23
  go_wp2_with fail
  clear c1 c2 c3 c4 c5 c6 c7 c8 c9 c10 c11 c12 c13 c14 c15 c16
  have hblk : Blk (w.alloc (.cells (errCells A) 85)) w.heap.size 85 (errCells A) := Blk.new _ _ _
  have hbel : Below w.heap.size w (w.alloc (.cells (errCells A) 85)) := (Below.refl _ _).alloc (Nat.le_refl _) _
  unfold errCells at hblk hbel
  generalize (w.alloc (Obj.cells _ _)) = w1 at hblk hbel ⊢
  have HB := Lib.hid hblk
  clear hblk
  go_loop [4] (fun i => ∃ j : Nat, j + 1 ≤ k ∧ i = .int .i64 j) (fun i => 16 - (intOf i).toNat)
  case atStart => exact ⟨0, by omega, rfl⟩
  case round =>
    obtain ⟨j, hj, rfl⟩ := hrel
    have hc : w1.cell? ⟨w.heap.size, j, none⟩ = some (.iface 120 (.pointer (some (A (j + 1))))) := (HB.out.cell j).trans (errCells_at A j (by omega))
    by_cases hlast : j + 1 = k
    · subst hlast
      go_wp2_with fail
      refine (is_same _ _).mono ?_
      rintro e w2 ⟨rfl, rfl⟩
      go_wp2_with fail
      go_ret
      exact ⟨rfl, hbel⟩
    · have hjk : j + 1 < k := by omega
      obtain ⟨_, _, hb1, _, ⟨ca, ta, ha⟩, _⟩ := HE.out.1 k (mem_all k h1 h2)
      obtain ⟨_, _, hb2, _, ⟨cb, tb, hb⟩, _⟩ := HE.out.1 (j + 1) (mem_all (j + 1) (by omega) (by omega))
      have hne : A k ≠ A (j + 1) := fun h => hlast (HE.out.2 k (mem_all k h1 h2) (j + 1) (mem_all (j + 1) (by omega) (by omega)) h).symm
      have H := Lib.hid (And.intro hne (And.intro ((hbel.block _ hb1).trans ha) ((hbel.block _ hb2).trans hb)))
      clear hne ha hb hlast hb1 hb2
      go_wp2_with fail
      refine (is_other _ _ _ _ _ _ _ H.out.1 H.out.2.1 H.out.2.2).mono ?_
      rintro e w2 ⟨rfl, rfl⟩
      go_wp2_with fail
      go_round
      case rel => exact ⟨j + 1, by omega, by go_num⟩
      case measure => simp [intOf]; omega

/-- Of each number, 0 too. -/
theorem kind_any (A : Nat → Addr) (k : Nat) (h2 : k ≤ 16) (w : World) (hE : Errs w w.heap.size allErrs A) :
    Calls Tryd.prog 23 #[errV A k] w fun e w' => e = .returned (.int .i64 k) ∧ Below w.heap.size w w' := by
  rcases Nat.eq_zero_or_pos k with rfl | h1
  · exact kind_nil A w hE
  · rw [errV_pos A h1]; exact kind_err A k h1 h2 w hE
end Go.Proofs.YtagjmkgbfbaekaaDoor
