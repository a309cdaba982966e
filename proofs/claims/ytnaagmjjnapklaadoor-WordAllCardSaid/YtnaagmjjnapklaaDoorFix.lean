/- word.Fixed, word.Whole, and the document's example of layer 1. No condition. -/
import Derived.Test.YtnaagmjjnapklaaDoorWord
namespace Go.Proofs.YtnaagmjjnapklaaDoor
open Go.RowKit

def fixI (n : Int) : Int := if 8388607 < n then 2147483392 else if n ≤ -8388608 then -2147483648 else n * 256
theorem fixed_any (n : Int) (w : World) : Calls Tryd.prog 21 #[.int .i64 n] w fun e w' => e = .returned (.int .i32 (fixI n)) ∧ w = w' := by
  by_cases h1 : 8388607 < n
  · have hf : fixI n = 2147483392 := by simp [fixI, h1]
    have H := Lib.hid hf
    clear hf
    go_enter Tryd.func21, Tryd.ntmps21
    go_wp2
    go_ret
    exact ⟨ret_int H.out.symm, rfl⟩
  · by_cases h2 : n ≤ -8388608
    · have hf : fixI n = -2147483648 := by simp [fixI, h1, h2]
      have H := Lib.hid hf
      clear hf
      have h3 : ¬ (-8388608 < n) := by omega
      go_enter Tryd.func21, Tryd.ntmps21
      go_wp2
      go_ret
      exact ⟨ret_int H.out.symm, rfl⟩
    · have hf : fixI n = n * 256 := by simp [fixI, h1, h2]
      have H := Lib.hid hf
      clear hf
      go_enter Tryd.func21, Tryd.ntmps21
      go_wp2
      go_ret
      exact ⟨ret_int H.out.symm, rfl⟩
theorem whole_any (v : Int) (w : World) (h0 : -2147483648 ≤ v) (h1 : v < 2147483648) : Calls Tryd.prog 23 #[.int .i32 v] w fun e w' => e = .returned (.int .i64 (v / 256)) ∧ w = w' := by
  go_enter Tryd.func23, Tryd.ntmps23
  go_wp2
  go_ret
  exact ⟨rfl, rfl⟩
theorem wawake_any (w : World) : Calls Tryd.prog 11 #[] w fun e w' => e = .returned (.bool true) ∧ Below w.heap.size w w' := by
  go_enter Tryd.func11, Tryd.ntmps11
  go_wp2_with fail
  refine (putText_any (.slice none 0 0) [] _ w (Sl.nil_ _ _) (by simp) (by decide)).mono ?_
  rintro e w1 ⟨v1, rfl, hown1, hb1⟩
  have hcv := conv_str (P := Tryd.prog) (src := 23) (dst := 9) Tryd.underlying23 Tryd.underlying5 Tryd.underlying9 (SlN.of_own hown1)
  rw [show strB ([] ++ encB ((ByteArray.data ⟨#[97, 98, 99]⟩).toList ++ [0])) = ⟨#[4, 0, 0, 0, 97, 98, 99, 0]⟩ by decide] at hcv
  clear hown1
  have f1 : fixI 2 = 512 := rfl
  go_wp2_with fail
  refine (fixed_any _ _).mono ?_
  rintro e w2 ⟨rfl, rfl⟩
  rw [f1]
  clear f1
  go_wp2_with fail
  refine (whole_any _ _ (by omega) (by omega)).mono ?_
  rintro e w2 ⟨rfl, rfl⟩
  go_wp2_with fail
  go_ret
  exact ⟨rfl, hb1⟩
end Go.Proofs.YtnaagmjjnapklaaDoor
