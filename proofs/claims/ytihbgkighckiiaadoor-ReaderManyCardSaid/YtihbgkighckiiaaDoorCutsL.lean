/- Plain laws: what comes out of bytes that come in pieces. No condition. -/
import Derived.Test.YtihbgkighckiiaaDoorStopsL
namespace Go.Proofs.YtihbgkighckiiaaDoor
open Go.RowKit
set_option maxRecDepth 100000

theorem headE_short (a : List UInt8) : headE a = 2 ↔ a.length < 8 := by
  unfold headE
  constructor
  · intro h
    split at h
    · assumption
    · split at h
      · omega
      · split at h <;> omega
  · intro h; rw [if_pos h]
theorem head_app (a b : List UInt8) (h : headE a ≠ 2) : headE (a ++ b) = headE a ∧ headO (a ++ b) = headO a ∧ headP (a ++ b) = headP a ∧ headN (a ++ b) = headN a := by
  have hl : 8 ≤ a.length := by have := headE_short a; omega
  have l4 := leV_pre a b 4 (by omega)
  have l0 := leV_pre a b 0 (by omega)
  have e : headE (a ++ b) = headE a := by
    unfold headE
    rw [l4, if_neg (by rw [List.length_append]; omega), if_neg (c := a.length < 8) (by omega)]
  unfold headO headP headN
  rw [e, l4, l0]
  exact ⟨rfl, rfl, rfl, rfl⟩
/-- What is fed on is what the whole is. -/
theorem feedL_app : ∀ (n : Nat) (a b : List UInt8), a.length ≤ n → feedL (a ++ b) = if (feedL a).2.2 ≠ 0 then ((feedL a).1, [], (feedL a).2.2) else ((feedL a).1 ++ (feedL ((feedL a).2.1 ++ b)).1, (feedL ((feedL a).2.1 ++ b)).2)
  | 0, a, b, h => by
    have : a = [] := List.eq_nil_of_length_eq_zero (by omega)
    subst this
    rw [show feedL [] = ([], [], 0) from feedL_short (by decide +kernel)]
    simp
  | n + 1, a, b, h => by
    by_cases e2 : headE a = 2
    · rw [feedL_short e2]; simp
    · obtain ⟨x1, x2, x3, x4⟩ := head_app a b e2
      by_cases e0 : headE a = 0
      · obtain ⟨f1, f2, f3, _⟩ := headE_ok e0
        obtain ⟨sz, hsz⟩ : ∃ sz : Nat, headN a = sz := ⟨(headN a).toNat, by omega⟩
        by_cases hlt : a.length < sz
        · rw [feedL_part e0 (by omega)]; simp
        · rw [feedL_msg e0 sz hsz (by omega), feedL_msg (bs := a ++ b) (by omega) sz (by omega) (by rw [List.length_append]; omega), x2, x3,
            List.take_append_of_le_length (by omega), List.drop_append_of_le_length (by omega), feedL_app n (a.drop sz) b (by rw [List.length_drop]; omega)]
          simp only
          split <;> simp
      · rw [feedL_bad e0 e2, feedL_bad (bs := a ++ b) (by omega) (by omega), x1]; simp [e0]
theorem feedL_wrong : ∀ (n : Nat) (a : List UInt8), a.length ≤ n → (feedL a).2.2 ≠ 0 → (feedL a).2.1 = []
  | 0, a, h => by
    have : a = [] := List.eq_nil_of_length_eq_zero (by omega)
    subst this
    rw [show feedL [] = ([], [], 0) from feedL_short (by decide +kernel)]
    simp
  | n + 1, a, h => by
    by_cases e2 : headE a = 2
    · rw [feedL_short e2]; simp
    · by_cases e0 : headE a = 0
      · obtain ⟨f1, f2, f3, _⟩ := headE_ok e0
        obtain ⟨sz, hsz⟩ : ∃ sz : Nat, headN a = sz := ⟨(headN a).toNat, by omega⟩
        by_cases hlt : a.length < sz
        · rw [feedL_part e0 (by omega)]; simp
        · rw [feedL_msg e0 sz hsz (by omega)]
          exact feedL_wrong n (a.drop sz) (by rw [List.length_drop]; omega)
      · rw [feedL_bad e0 e2]; simp
/-- One piece more. -/
theorem fed_step (p c : List UInt8) : feedL (p ++ c) = ((feedL p).1 ++ (fed (feedL p).2.1 (feedL p).2.2 c).1, (fed (feedL p).2.1 (feedL p).2.2 c).2) := by
  rw [feedL_app _ p c (Nat.le_refl _)]
  unfold fed
  split
  · rename_i h
    rw [feedL_wrong _ p (Nat.le_refl _) h]; simp
  · rfl
/-- What is left is less than a message. -/
theorem feedL_left : ∀ (n : Nat) (a : List UInt8), a.length ≤ n → (feedL a).2.1.length ≤ 4096
  | 0, a, h => by
    have : a = [] := List.eq_nil_of_length_eq_zero (by omega)
    subst this
    rw [show feedL [] = ([], [], 0) from feedL_short (by decide +kernel)]
    simp
  | n + 1, a, h => by
    by_cases e2 : headE a = 2
    · rw [feedL_short e2]; have := (headE_short a).1 e2; simp; omega
    · by_cases e0 : headE a = 0
      · obtain ⟨f1, f2, f3, _⟩ := headE_ok e0
        obtain ⟨sz, hsz⟩ : ∃ sz : Nat, headN a = sz := ⟨(headN a).toNat, by omega⟩
        by_cases hlt : a.length < sz
        · rw [feedL_part e0 (by omega)]; simp; omega
        · rw [feedL_msg e0 sz hsz (by omega)]
          exact feedL_left n (a.drop sz) (by rw [List.length_drop]; omega)
      · rw [feedL_bad e0 e2]; simp
theorem feedL_err (n : Nat) : ∀ (a : List UInt8), a.length ≤ n → (feedL a).2.2 ≤ 4 := by
  induction n with
  | zero =>
    intro a h
    have : a = [] := List.eq_nil_of_length_eq_zero (by omega)
    subst this
    rw [show feedL [] = ([], [], 0) from feedL_short (by decide +kernel)]
    simp
  | succ n ih =>
    intro a h
    by_cases e2 : headE a = 2
    · rw [feedL_short e2]; simp
    · by_cases e0 : headE a = 0
      · obtain ⟨f1, f2, f3, _⟩ := headE_ok e0
        obtain ⟨sz, hsz⟩ : ∃ sz : Nat, headN a = sz := ⟨(headN a).toNat, by omega⟩
        by_cases hlt : a.length < sz
        · rw [feedL_part e0 (by omega)]; simp
        · rw [feedL_msg e0 sz hsz (by omega)]
          exact ih (a.drop sz) (by rw [List.length_drop]; omega)
      · rw [feedL_bad e0 e2]; rcases headE_vals a with h | h | h | h <;> simp <;> omega
/-- One whole message ahead. -/
theorem feedL_one (o p : Int) (body rest : List UInt8) (h0 : 0 ≤ o) (h1 : o < 4294967296) (p0 : 0 ≤ p) (p1 : p < 65536) (hb : body.length ≤ 4088) (h4 : body.length % 4 = 0) :
    feedL (le4 o ++ le4 ((body.length + 8 : Nat) * 65536 + p) ++ body ++ rest) = ((o, p, strB body) :: (feedL rest).1, (feedL rest).2) := by
  obtain ⟨y, hy⟩ : ∃ y : Int, y = (body.length + 8 : Nat) * 65536 + p := ⟨_, rfl⟩
  rw [← hy]
  have e : le4 o ++ le4 y ++ body ++ rest = le4 o ++ (le4 y ++ (body ++ rest)) := by simp only [List.append_assoc]
  have l4 : leV (le4 o ++ le4 y ++ body ++ rest) 4 = y := by rw [e]; exact leV_at (le4 o) y (body ++ rest) (by omega) (by omega)
  have l0 : leV (le4 o ++ le4 y ++ body ++ rest) 0 = o := by rw [e]; exact leV_le4 o (le4 y ++ (body ++ rest)) h0 h1
  have x1 := le4_length o
  have x2 := le4_length y
  generalize le4 o = X at *
  generalize le4 y = Y at *
  clear e
  have hl : (X ++ Y ++ body ++ rest).length = 8 + body.length + rest.length := by simp only [List.length_append, x1, x2]
  have hl3 : (X ++ Y ++ body).length = body.length + 8 := by simp only [List.length_append, x1, x2]; omega
  have hl2 : (X ++ Y).length = 8 := by simp only [List.length_append, x1, x2]
  have hE : headE (X ++ Y ++ body ++ rest) = 0 := by
    unfold headE
    rw [if_neg (by omega), l4, if_neg (by omega), if_neg (by omega)]
  obtain ⟨g1, g2, g3⟩ := head_ok hE
  have hN : headN (X ++ Y ++ body ++ rest) = (body.length + 8 : Nat) := by rw [g3, l4]; omega
  have e1 : ((X ++ Y ++ body ++ rest).take (body.length + 8)).drop 8 = body := by
    rw [List.take_left' hl3, List.drop_left' hl2]
  have e2 : (X ++ Y ++ body ++ rest).drop (body.length + 8) = rest := List.drop_left' hl3
  rw [feedL_msg hE (body.length + 8) hN (by omega), g1, g2, l0, l4, e1, e2]
  rw [show y % 65536 = p by omega]
end Go.Proofs.YtihbgkighckiiaaDoor
