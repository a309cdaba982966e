/- WordFixed returns true for every input: a whole number, fixed, is that number again where there is room; the order stays. No condition. -/
import Derived.Test.YtnaagmjjnapklaaFix
namespace Go.Proofs.Ytnaagmjjnapklaa
open Go.RowKit

theorem fixI_bd (n : Int) : -2147483648 ≤ fixI n ∧ fixI n < 2147483648 ∧ fixI n % 256 = 0 := by
  unfold fixI
  split
  · omega
  · split <;> omega
theorem fixI_in (a : Int) (h1 : -8388608 ≤ a) (h2 : a < 8388608) : (fixI a / 256 == a) = true := by
  unfold fixI
  by_cases h3 : a ≤ -8388608
  · have : a = -8388608 := by omega
    subst this; decide
  · rw [if_neg (by omega), if_neg h3]; simp
theorem fixI_out (a : Int) (h : a < -8388608 ∨ 8388607 < a) : (fixI a / 256 == a) = false := by
  unfold fixI
  split
  · simp; omega
  · rw [if_pos (by omega)]; simp; omega
theorem fixI_le (a b : Int) (h : a ≤ b) : fixI a ≤ fixI b := by
  unfold fixI
  repeat' split
  all_goals omega

theorem tmod_zero (x : Int) (h : x % 256 = 0) : (x.tmod 256 == 0) = true := by
  have := Int.tmod_eq_zero_of_dvd (Int.dvd_of_emod_eq_zero h)
  rw [this]; rfl

set_option maxHeartbeats 1600000 in
theorem wordFixed_any (a b : Int) (w : World) :
    Calls Try.prog 3 #[.int .i64 a, .int .i64 b] w fun e w' => e = .returned (.bool true) ∧ Below w.heap.size w w' := by
  obtain ⟨x0, x1, x2⟩ := fixI_bd a
  obtain ⟨y0, y1, y2⟩ := fixI_bd b
  have hin := fixI_in a
  have hout := fixI_out a
  have hle := fixI_le a b
  obtain ⟨x, hx⟩ : ∃ x, x = fixI a := ⟨_, rfl⟩
  obtain ⟨y, hy⟩ : ∃ y, y = fixI b := ⟨_, rfl⟩
  rw [← hx] at x0 x1 x2 hin hout hle
  rw [← hy] at y0 y1 y2 hle
  have HX := Lib.hid hx
  have HY := Lib.hid hy
  have hm := tmod_zero x x2
  have HI := Lib.hid hin
  have HO := Lib.hid hout
  have HL := Lib.hid hle
  clear hx hy x2 y2 hin hout hle
  have hrest : (-8388608 ≤ a ∧ a < 8388608) ∨ a < -8388608 ∨ 8388607 < a := by omega
  rcases hrest with ⟨r1, r2⟩ | r1 | r1
  all_goals
    first
      | have hi : (x / 256 == a) = true := HI.out r1 r2
      | have hi : (x / 256 == a) = false := HO.out (.inl r1)
      | have hi : (x / 256 == a) = false := HO.out (.inr r1)
    first
      | have hd2 : decide (a < 8388608) = false := decide_eq_false (by omega)
      | skip
    by_cases hab : b < a
    · go_enter Try.func3, Try.ntmps3
      go_wp2_with fail
      refine (fixed_any _ _).mono ?_
      rintro e w1 ⟨rfl, rfl⟩
      rw [← HX.out]
      go_wp2_with fail
      refine (fixed_any _ _).mono ?_
      rintro e w1 ⟨rfl, rfl⟩
      rw [← HY.out]
      go_wp2_with fail
      refine (whole_any _ _ x0 x1).mono ?_
      rintro e w1 ⟨rfl, rfl⟩
      go_wp2_with fail
      refine (wawake_any _).mono ?_
      rintro e w1 ⟨rfl, hb⟩
      go_wp2_with fail
      go_ret
      exact ⟨rfl, hb⟩
    · have hxy : x ≤ y := HL.out (by omega)
      have hd : decide (b < a) = false := by simpa using hab
      go_enter Try.func3, Try.ntmps3
      go_wp2_with fail
      refine (fixed_any _ _).mono ?_
      rintro e w1 ⟨rfl, rfl⟩
      rw [← HX.out]
      go_wp2_with fail
      refine (fixed_any _ _).mono ?_
      rintro e w1 ⟨rfl, rfl⟩
      rw [← HY.out]
      go_wp2_with fail
      refine (whole_any _ _ x0 x1).mono ?_
      rintro e w1 ⟨rfl, rfl⟩
      go_wp2_with fail
      refine (wawake_any _).mono ?_
      rintro e w1 ⟨rfl, hb⟩
      go_wp2_with fail
      go_ret
      exact ⟨rfl, hb⟩
theorem wordFixedRow (a b : Int) (w : World) (_ : (Lit.int .i64 a).wf = true) (_ : (Lit.int .i64 b).wf = true) :
    Calls Try.prog 3 #[.int .i64 a, .int .i64 b] w fun e w' => e = .returned (.bool true) ∧ Below w.heap.size w w' := wordFixed_any a b w
end Go.Proofs.Ytnaagmjjnapklaa
