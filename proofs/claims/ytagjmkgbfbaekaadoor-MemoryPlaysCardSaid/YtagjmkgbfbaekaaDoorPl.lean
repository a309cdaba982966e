/- tableaulaw00.Place: any number as one from 0 to n - 1. No condition. -/
import Derived.Test.YtagjmkgbfbaekaaDoorBase
import Derived.Test.YtagjmkgbfbaekaaDoorChecked
namespace Go.Proofs.YtagjmkgbfbaekaaDoor
open Go.RowKit

/-- Place: any number as one from 0 to n - 1. -/
theorem place_any (v n : Int) (w : World) (hn : 0 < n) (hn' : n ≤ 4611686018427387904) :
    Calls Tryd.prog 19 #[.int .i64 v, .int .i64 n] w fun e w' => e = .returned (.int .i64 (v % n)) ∧ w = w' := by
  have h0 : (n == 0) = false := by simp; omega
  obtain ⟨h1, h2, h3⟩ := place_num v n hn
  by_cases c : v.tmod n < 0
  · rw [if_pos c] at h1
    have H := Lib.hid h1
    clear h1
    go_enter Tryd.func19, Tryd.ntmps19
    go_wp2
    go_ret
    exact ⟨by rw [H.out]; rfl, rfl⟩
  · rw [if_neg c] at h1
    have H := Lib.hid h1
    clear h1
    go_enter Tryd.func19, Tryd.ntmps19
    go_wp2
    go_ret
    exact ⟨by rw [H.out]; rfl, rfl⟩

end Go.Proofs.YtagjmkgbfbaekaaDoor
