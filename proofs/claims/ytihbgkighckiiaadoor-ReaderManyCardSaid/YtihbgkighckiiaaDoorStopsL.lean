/- Plain laws for ReaderStops. No condition. -/
import Derived.Test.YtihbgkighckiiaaDoorRAwake
import Derived.Test.YtihbgkighckiiaaDoorEnc
namespace Go.Proofs.YtihbgkighckiiaaDoor
open Go.RowKit
set_option maxRecDepth 100000

theorem feedL_count : ∀ (n : Nat) (bs : List UInt8), bs.length ≤ n → (feedL bs).1.length * 8 + (feedL bs).2.1.length ≤ bs.length
  | 0, bs, h => by
    have : bs = [] := List.eq_nil_of_length_eq_zero (by omega)
    subst this
    rw [show feedL [] = ([], [], 0) from feedL_short (by decide +kernel)]
    simp
  | n + 1, bs, h => by
    by_cases e2 : headE bs = 2
    · rw [feedL_short e2]; simp
    · by_cases e0 : headE bs = 0
      · obtain ⟨f1, f2, f3, _⟩ := headE_ok e0
        obtain ⟨sz, hsz⟩ : ∃ sz : Nat, headN bs = sz := ⟨(headN bs).toNat, by omega⟩
        by_cases hlt : bs.length < sz
        · rw [feedL_part e0 (by omega)]; simp
        · rw [feedL_msg e0 sz hsz (by omega)]
          have := feedL_count n (bs.drop sz) (by rw [List.length_drop]; omega)
          rw [List.length_drop] at this
          simp only [List.length_cons]
          omega
      · rw [feedL_bad e0 e2]; simp
/-- A head that is none. -/
theorem feedL_none (z : Int) (h0 : 0 ≤ z) (h1 : z < 65536) (hz : ¬ (8 ≤ z ∧ z % 4 = 0 ∧ z ≤ 4096)) : ∃ k, (k = 3 ∨ k = 4) ∧ feedL (le4 1 ++ le4 (z * 65536)) = ([], [], k) := by
  have l4 : leV (le4 1 ++ le4 (z * 65536)) 4 = z * 65536 := by
    have := leV_at (le4 1) (z * 65536) [] (by omega) (by omega)
    rw [List.append_nil] at this
    exact this
  have hE : headE (le4 1 ++ le4 (z * 65536)) = 3 ∨ headE (le4 1 ++ le4 (z * 65536)) = 4 := by
    unfold headE
    rw [if_neg (by rw [List.length_append, le4_length, le4_length]; omega), l4, show z * 65536 / 65536 = z by omega]
    split
    · exact .inl rfl
    · rw [if_pos (by omega)]; exact .inr rfl
  rcases hE with h | h
  · exact ⟨3, .inl rfl, by rw [feedL_bad (by omega) (by omega), h]⟩
  · exact ⟨4, .inr rfl, by rw [feedL_bad (by omega) (by omega), h]⟩
end Go.Proofs.YtihbgkighckiiaaDoor
