/- Every row of the table stands. No condition. -/
import Derived.Test.YtenpbpgoglepfaaGreatDoorMm9
namespace Go.Proofs.YtenpbpgoglepfaaGreatDoor
open Go.RowKit
set_option linter.unusedVariables false
def mt0 : Mt := [(255, "Unwrap", 390), (255, "Error", 389), (465, "Error", 405)]
noncomputable def rowOk (n : Nat) : Bool := match tabF n with
  | .no => true
  | .pr _ => Nat.beq n 114 || (Nat.beq n 352 || (Nat.beq n 64 || Nat.beq n 219))
  | .x a b c => (match Tryz.prog.funcs[n]? with | some fn => ckF Tryz.prog 18 mt0 (ckDD Tryz.prog 18 mt0) fn (.x a b c) | none => false)
noncomputable def allL (f : Nat → Bool) (n k : Nat) : Bool := Nat.rec (motive := fun _ => Bool) true (fun i ih => f (Nat.add n i) && ih) k
theorem allL_ok {f : Nat → Bool} {n : Nat} : ∀ {k : Nat}, allL f n k = true → ∀ i, i < k → f (n + i) = true
  | 0, _, i, h => absurd h (Nat.not_lt_zero i)
  | k + 1, h, i, hi => by
    have h : (f (Nat.add n k) && allL f n k) = true := h
    simp only [Bool.and_eq_true] at h
    rcases Nat.lt_or_eq_of_le (Nat.le_of_lt_succ hi) with hl | rfl
    · exact allL_ok h.2 i hl
    · exact h.1
theorem rows0 : allL rowOk 0 16 = true := by kernel_rfl
theorem rows1 : allL rowOk 16 16 = true := by kernel_rfl
theorem rows2 : allL rowOk 32 16 = true := by kernel_rfl
theorem rows3 : allL rowOk 48 16 = true := by kernel_rfl
theorem rows4 : allL rowOk 64 16 = true := by kernel_rfl
theorem rows5 : allL rowOk 80 16 = true := by kernel_rfl
theorem rows6 : allL rowOk 96 16 = true := by kernel_rfl
theorem rows7 : allL rowOk 112 16 = true := by kernel_rfl
theorem rows8 : allL rowOk 128 16 = true := by kernel_rfl
theorem rows9 : allL rowOk 144 16 = true := by kernel_rfl
theorem rows10 : allL rowOk 160 16 = true := by kernel_rfl
theorem rows11 : allL rowOk 176 16 = true := by kernel_rfl
theorem rows12 : allL rowOk 192 16 = true := by kernel_rfl
theorem rows13 : allL rowOk 208 16 = true := by kernel_rfl
theorem rows14 : allL rowOk 224 16 = true := by kernel_rfl
theorem rows15 : allL rowOk 240 16 = true := by kernel_rfl
theorem rows16 : allL rowOk 256 16 = true := by kernel_rfl
theorem rows17 : allL rowOk 272 16 = true := by kernel_rfl
theorem rows18 : allL rowOk 288 16 = true := by kernel_rfl
theorem rows19 : allL rowOk 304 16 = true := by kernel_rfl
theorem rows20 : allL rowOk 320 16 = true := by kernel_rfl
theorem rows21 : allL rowOk 336 16 = true := by kernel_rfl
theorem rows22 : allL rowOk 352 16 = true := by kernel_rfl
theorem rows23 : allL rowOk 368 16 = true := by kernel_rfl
theorem rows24 : allL rowOk 384 16 = true := by kernel_rfl
theorem rows25 : allL rowOk 400 16 = true := by kernel_rfl
theorem rows26 : allL rowOk 416 16 = true := by kernel_rfl
theorem rows27 : allL rowOk 432 16 = true := by kernel_rfl
theorem rows28 : allL rowOk 448 16 = true := by kernel_rfl
theorem rows29 : allL rowOk 464 16 = true := by kernel_rfl
theorem rows30 : allL rowOk 480 16 = true := by kernel_rfl
theorem rows31 : allL rowOk 496 16 = true := by kernel_rfl
theorem rowOk_all (n : Nat) (hn : n < 512) : rowOk n = true := by
  have h : n / 16 < 32 := by omega
  have e : n = 16 * (n / 16) + n % 16 := by omega
  have hm : n % 16 < 16 := Nat.mod_lt _ (by decide)
  rw [e]
  generalize n / 16 = q at h
  generalize n % 16 = m at hm
  match q, h with
  | 0, _ => exact allL_ok rows0 m hm
  | 1, _ => exact allL_ok rows1 m hm
  | 2, _ => exact allL_ok rows2 m hm
  | 3, _ => exact allL_ok rows3 m hm
  | 4, _ => exact allL_ok rows4 m hm
  | 5, _ => exact allL_ok rows5 m hm
  | 6, _ => exact allL_ok rows6 m hm
  | 7, _ => exact allL_ok rows7 m hm
  | 8, _ => exact allL_ok rows8 m hm
  | 9, _ => exact allL_ok rows9 m hm
  | 10, _ => exact allL_ok rows10 m hm
  | 11, _ => exact allL_ok rows11 m hm
  | 12, _ => exact allL_ok rows12 m hm
  | 13, _ => exact allL_ok rows13 m hm
  | 14, _ => exact allL_ok rows14 m hm
  | 15, _ => exact allL_ok rows15 m hm
  | 16, _ => exact allL_ok rows16 m hm
  | 17, _ => exact allL_ok rows17 m hm
  | 18, _ => exact allL_ok rows18 m hm
  | 19, _ => exact allL_ok rows19 m hm
  | 20, _ => exact allL_ok rows20 m hm
  | 21, _ => exact allL_ok rows21 m hm
  | 22, _ => exact allL_ok rows22 m hm
  | 23, _ => exact allL_ok rows23 m hm
  | 24, _ => exact allL_ok rows24 m hm
  | 25, _ => exact allL_ok rows25 m hm
  | 26, _ => exact allL_ok rows26 m hm
  | 27, _ => exact allL_ok rows27 m hm
  | 28, _ => exact allL_ok rows28 m hm
  | 29, _ => exact allL_ok rows29 m hm
  | 30, _ => exact allL_ok rows30 m hm
  | 31, _ => exact allL_ok rows31 m hm
  | k + 32, h => exact absurd h (by omega)
end Go.Proofs.YtenpbpgoglepfaaGreatDoor
