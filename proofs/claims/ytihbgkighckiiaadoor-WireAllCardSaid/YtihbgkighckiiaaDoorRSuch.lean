/- tableauref04.such, clean: is an argument one of a letter? No condition. (Printed by gen_rsuch.py.) -/
import Derived.Test.YtihbgkighckiiaaDoorSuch
import Derived.Test.YtihbgkighckiiaaDoorEnc
namespace Go.Proofs.YtihbgkighckiiaaDoor
open Go.RowKit
set_option maxRecDepth 100000

def cleanB (s : ByteArray) : Bool := decide (Lib.indexByte s.data.toList 0 < 0)
theorem cleanB_none (s : ByteArray) (h : ∀ i (hi : i < s.size), s[i].toNat ≠ 0) : cleanB s = true := by
  have : (0 : UInt8) ∉ s.data.toList := by
    intro hm
    obtain ⟨i, hi, he⟩ := List.getElem_of_mem hm
    have hi' : i < s.size := by rw [Array.length_toList] at hi; exact hi
    refine h i hi' ?_
    have e : s[i] = s.data.toList[i] := by rw [Array.getElem_toList]; rfl
    rw [e, he]; rfl
  unfold cleanB; rw [indexByte_none _ this]; rfl
theorem cleanB_some (s : ByteArray) (i : Nat) (hi : i < s.size) (h : s[i].toNat = 0) : cleanB s = false := by
  have hm : (0 : UInt8) ∈ s.data.toList := by
    have e : s[i] = s.data.toList[i]'(by rw [Array.length_toList]; exact hi) := by rw [Array.getElem_toList]; rfl
    have h0 : s[i] = 0 := UInt8.toNat_inj.1 (by simpa using h)
    rw [← h0, e]; exact List.getElem_mem _
  rcases split_zero s.data.toList with h1 | ⟨a, b, e, ha⟩
  · exact absurd hm h1
  · unfold cleanB; rw [e, indexByte_app a b ha]; simp
def CleanRel (s : ByteArray) (a : Value) : Prop := ∃ i : Nat, i ≤ s.size ∧ a = .int .i64 i ∧ ∀ j (hj : j < s.size), j < i → s[j].toNat ≠ 0
set_option maxHeartbeats 800000 in
theorem clean_any (s : ByteArray) (w : World) (hs : s.size ≤ 140737488351232) : Calls Tryd.prog 57 #[.string s] w fun e w' => e = .returned (.bool (cleanB s)) ∧ w = w' := by
  have HN : Hid ((∀ i (hi : i < s.size), s[i].toNat ≠ 0) → cleanB s = true) := cleanB_none s
  have HS : Hid (∀ i (hi : i < s.size), s[i].toNat = 0 → cleanB s = false) := cleanB_some s
  go_enter Tryd.func57, Tryd.ntmps57
  go_wp2_with fail
  go_loop [3] (CleanRel s) (fun a => s.size - (intOf a).toNat)
  case atStart => exact ⟨0, Nat.zero_le _, rfl, fun j _ h => absurd h (Nat.not_lt_zero _)⟩
  case round =>
    obtain ⟨i, hi, rfl, hz⟩ := hrel
    have HZ := Lib.hid hz
    clear hz
    by_cases hlt : i < s.size
    · obtain ⟨c, hc⟩ : ∃ c : Nat, s[i].toNat = c := ⟨_, rfl⟩
      have HC := Lib.hid hc
      by_cases h0 : c = 0
      · have d : ((c : Int) == 0) = true := by rw [beq_iff_eq]; omega
        have hf := Lib.hid (HS.out i hlt (hc.trans h0))
        clear h0
        go_wp2_with fail
        go_ret
        rw [hf.out]
        exact ⟨rfl, rfl⟩
      · have d : ((c : Int) == 0) = false := by rw [beq_eq_false_iff_ne]; omega
        have H0 := Lib.hid h0
        clear h0
        go_wp2_with fail
        go_round
        case rel => exact ⟨i + 1, by omega, by go_num, fun j hj hji => by
          rcases Nat.lt_succ_iff_lt_or_eq.1 hji with h | rfl
          · exact HZ.out j hj h
          · exact fun e => H0.out (HC.out.symm.trans e)⟩
        case measure => simp [intOf]; omega
    · have hf := Lib.hid (HN.out (fun j hj => HZ.out j hj (by omega)))
      go_wp2_with fail
      go_ret
      rw [hf.out]
      exact ⟨rfl, rfl⟩

set_option maxHeartbeats 800000 in
theorem rsuch_105 (n : Int) (s : ByteArray) (w : World) (_ : s.size ≤ 140737488351232) : Calls Tryd.prog 47 #[.agg #[.int .u8 105, .int .i64 n, .string s], .int .u8 105] w fun e w' => e = .returned (.bool (suchI n s)) ∧ Below w.heap.size w w' := by
  by_cases h0 : s.data.toList = []
  · obtain rfl := empty_of h0
    clear h0
    rcases Int.lt_or_le n (-2147483648) with h1 | h1
    · have hf : Hid (suchI n ⟨#[]⟩ = false) := by show _ = _; unfold suchI; simp; omega
      have d1 : decide (-2147483648 ≤ n) = false := by simpa using h1
      clear h1
      go_enter Tryd.func47, Tryd.ntmps47
      go_wp2
      go_ret
      rw [hf.out]
      exact ⟨rfl, (Below.refl _ _).alloc (Nat.le_refl _) _⟩
    · have d1 : decide (-2147483648 ≤ n) = true := by simpa using h1
      rcases Int.lt_or_le n (2147483648) with h2 | h2
      · have hf : Hid (suchI n ⟨#[]⟩ = true) := by show _ = _; unfold suchI; simp; omega
        have d2 : decide (n < 2147483648) = true := by simpa using h2
        clear h1 h2
        go_enter Tryd.func47, Tryd.ntmps47
        go_wp2
        go_ret
        rw [hf.out]
        exact ⟨rfl, (Below.refl _ _).alloc (Nat.le_refl _) _⟩
      · have hf : Hid (suchI n ⟨#[]⟩ = false) := by show _ = _; unfold suchI; simp; omega
        have d2 : decide (n < 2147483648) = false := by simpa using h2
        clear h1 h2
        go_enter Tryd.func47, Tryd.ntmps47
        go_wp2
        go_ret
        rw [hf.out]
        exact ⟨rfl, (Below.refl _ _).alloc (Nat.le_refl _) _⟩
  · have hf : Hid (suchI n s = false) := by show _ = _; unfold suchI; simp only [decide_eq_false_iff_not]; exact fun h => h0 h.1
    have d0 := nonempty_of h0
    clear h0
    go_enter Tryd.func47, Tryd.ntmps47
    go_wp2
    go_ret
    rw [hf.out]
    exact ⟨rfl, (Below.refl _ _).alloc (Nat.le_refl _) _⟩
set_option maxHeartbeats 800000 in
theorem rsuch_102 (n : Int) (s : ByteArray) (w : World) (_ : s.size ≤ 140737488351232) : Calls Tryd.prog 47 #[.agg #[.int .u8 102, .int .i64 n, .string s], .int .u8 102] w fun e w' => e = .returned (.bool (suchI n s)) ∧ Below w.heap.size w w' := by
  by_cases h0 : s.data.toList = []
  · obtain rfl := empty_of h0
    clear h0
    rcases Int.lt_or_le n (-2147483648) with h1 | h1
    · have hf : Hid (suchI n ⟨#[]⟩ = false) := by show _ = _; unfold suchI; simp; omega
      have d1 : decide (-2147483648 ≤ n) = false := by simpa using h1
      clear h1
      go_enter Tryd.func47, Tryd.ntmps47
      go_wp2
      go_ret
      rw [hf.out]
      exact ⟨rfl, (Below.refl _ _).alloc (Nat.le_refl _) _⟩
    · have d1 : decide (-2147483648 ≤ n) = true := by simpa using h1
      rcases Int.lt_or_le n (2147483648) with h2 | h2
      · have hf : Hid (suchI n ⟨#[]⟩ = true) := by show _ = _; unfold suchI; simp; omega
        have d2 : decide (n < 2147483648) = true := by simpa using h2
        clear h1 h2
        go_enter Tryd.func47, Tryd.ntmps47
        go_wp2
        go_ret
        rw [hf.out]
        exact ⟨rfl, (Below.refl _ _).alloc (Nat.le_refl _) _⟩
      · have hf : Hid (suchI n ⟨#[]⟩ = false) := by show _ = _; unfold suchI; simp; omega
        have d2 : decide (n < 2147483648) = false := by simpa using h2
        clear h1 h2
        go_enter Tryd.func47, Tryd.ntmps47
        go_wp2
        go_ret
        rw [hf.out]
        exact ⟨rfl, (Below.refl _ _).alloc (Nat.le_refl _) _⟩
  · have hf : Hid (suchI n s = false) := by show _ = _; unfold suchI; simp only [decide_eq_false_iff_not]; exact fun h => h0 h.1
    have d0 := nonempty_of h0
    clear h0
    go_enter Tryd.func47, Tryd.ntmps47
    go_wp2
    go_ret
    rw [hf.out]
    exact ⟨rfl, (Below.refl _ _).alloc (Nat.le_refl _) _⟩
set_option maxHeartbeats 800000 in
theorem rsuch_117 (n : Int) (s : ByteArray) (w : World) (_ : s.size ≤ 140737488351232) : Calls Tryd.prog 47 #[.agg #[.int .u8 117, .int .i64 n, .string s], .int .u8 117] w fun e w' => e = .returned (.bool (suchU n s)) ∧ Below w.heap.size w w' := by
  by_cases h0 : s.data.toList = []
  · obtain rfl := empty_of h0
    clear h0
    rcases Int.lt_or_le n (0) with h1 | h1
    · have hf : Hid (suchU n ⟨#[]⟩ = false) := by show _ = _; unfold suchU; simp; omega
      have d1 : decide (0 ≤ n) = false := by simpa using h1
      clear h1
      go_enter Tryd.func47, Tryd.ntmps47
      go_wp2
      go_ret
      rw [hf.out]
      exact ⟨rfl, (Below.refl _ _).alloc (Nat.le_refl _) _⟩
    · have d1 : decide (0 ≤ n) = true := by simpa using h1
      rcases Int.lt_or_le n (4294967296) with h2 | h2
      · have hf : Hid (suchU n ⟨#[]⟩ = true) := by show _ = _; unfold suchU; simp; omega
        have d2 : decide (n < 4294967296) = true := by simpa using h2
        clear h1 h2
        go_enter Tryd.func47, Tryd.ntmps47
        go_wp2
        go_ret
        rw [hf.out]
        exact ⟨rfl, (Below.refl _ _).alloc (Nat.le_refl _) _⟩
      · have hf : Hid (suchU n ⟨#[]⟩ = false) := by show _ = _; unfold suchU; simp; omega
        have d2 : decide (n < 4294967296) = false := by simpa using h2
        clear h1 h2
        go_enter Tryd.func47, Tryd.ntmps47
        go_wp2
        go_ret
        rw [hf.out]
        exact ⟨rfl, (Below.refl _ _).alloc (Nat.le_refl _) _⟩
  · have hf : Hid (suchU n s = false) := by show _ = _; unfold suchU; simp only [decide_eq_false_iff_not]; exact fun h => h0 h.1
    have d0 := nonempty_of h0
    clear h0
    go_enter Tryd.func47, Tryd.ntmps47
    go_wp2
    go_ret
    rw [hf.out]
    exact ⟨rfl, (Below.refl _ _).alloc (Nat.le_refl _) _⟩
set_option maxHeartbeats 800000 in
theorem rsuch_111 (n : Int) (s : ByteArray) (w : World) (_ : s.size ≤ 140737488351232) : Calls Tryd.prog 47 #[.agg #[.int .u8 111, .int .i64 n, .string s], .int .u8 111] w fun e w' => e = .returned (.bool (suchU n s)) ∧ Below w.heap.size w w' := by
  by_cases h0 : s.data.toList = []
  · obtain rfl := empty_of h0
    clear h0
    rcases Int.lt_or_le n (0) with h1 | h1
    · have hf : Hid (suchU n ⟨#[]⟩ = false) := by show _ = _; unfold suchU; simp; omega
      have d1 : decide (0 ≤ n) = false := by simpa using h1
      clear h1
      go_enter Tryd.func47, Tryd.ntmps47
      go_wp2
      go_ret
      rw [hf.out]
      exact ⟨rfl, (Below.refl _ _).alloc (Nat.le_refl _) _⟩
    · have d1 : decide (0 ≤ n) = true := by simpa using h1
      rcases Int.lt_or_le n (4294967296) with h2 | h2
      · have hf : Hid (suchU n ⟨#[]⟩ = true) := by show _ = _; unfold suchU; simp; omega
        have d2 : decide (n < 4294967296) = true := by simpa using h2
        clear h1 h2
        go_enter Tryd.func47, Tryd.ntmps47
        go_wp2
        go_ret
        rw [hf.out]
        exact ⟨rfl, (Below.refl _ _).alloc (Nat.le_refl _) _⟩
      · have hf : Hid (suchU n ⟨#[]⟩ = false) := by show _ = _; unfold suchU; simp; omega
        have d2 : decide (n < 4294967296) = false := by simpa using h2
        clear h1 h2
        go_enter Tryd.func47, Tryd.ntmps47
        go_wp2
        go_ret
        rw [hf.out]
        exact ⟨rfl, (Below.refl _ _).alloc (Nat.le_refl _) _⟩
  · have hf : Hid (suchU n s = false) := by show _ = _; unfold suchU; simp only [decide_eq_false_iff_not]; exact fun h => h0 h.1
    have d0 := nonempty_of h0
    clear h0
    go_enter Tryd.func47, Tryd.ntmps47
    go_wp2
    go_ret
    rw [hf.out]
    exact ⟨rfl, (Below.refl _ _).alloc (Nat.le_refl _) _⟩
set_option maxHeartbeats 800000 in
theorem rsuch_110 (n : Int) (s : ByteArray) (w : World) (_ : s.size ≤ 140737488351232) : Calls Tryd.prog 47 #[.agg #[.int .u8 110, .int .i64 n, .string s], .int .u8 110] w fun e w' => e = .returned (.bool (suchN n s)) ∧ Below w.heap.size w w' := by
  by_cases h0 : s.data.toList = []
  · obtain rfl := empty_of h0
    clear h0
    rcases Int.lt_or_le n (1) with h1 | h1
    · have hf : Hid (suchN n ⟨#[]⟩ = false) := by show _ = _; unfold suchN; simp; omega
      have d1 : decide (1 ≤ n) = false := by simpa using h1
      clear h1
      go_enter Tryd.func47, Tryd.ntmps47
      go_wp2
      go_ret
      rw [hf.out]
      exact ⟨rfl, (Below.refl _ _).alloc (Nat.le_refl _) _⟩
    · have d1 : decide (1 ≤ n) = true := by simpa using h1
      rcases Int.lt_or_le n (4294967296) with h2 | h2
      · have hf : Hid (suchN n ⟨#[]⟩ = true) := by show _ = _; unfold suchN; simp; omega
        have d2 : decide (n < 4294967296) = true := by simpa using h2
        clear h1 h2
        go_enter Tryd.func47, Tryd.ntmps47
        go_wp2
        go_ret
        rw [hf.out]
        exact ⟨rfl, (Below.refl _ _).alloc (Nat.le_refl _) _⟩
      · have hf : Hid (suchN n ⟨#[]⟩ = false) := by show _ = _; unfold suchN; simp; omega
        have d2 : decide (n < 4294967296) = false := by simpa using h2
        clear h1 h2
        go_enter Tryd.func47, Tryd.ntmps47
        go_wp2
        go_ret
        rw [hf.out]
        exact ⟨rfl, (Below.refl _ _).alloc (Nat.le_refl _) _⟩
  · have hf : Hid (suchN n s = false) := by show _ = _; unfold suchN; simp only [decide_eq_false_iff_not]; exact fun h => h0 h.1
    have d0 := nonempty_of h0
    clear h0
    go_enter Tryd.func47, Tryd.ntmps47
    go_wp2
    go_ret
    rw [hf.out]
    exact ⟨rfl, (Below.refl _ _).alloc (Nat.le_refl _) _⟩
set_option maxHeartbeats 800000 in
theorem rsuch_115 (n : Int) (s : ByteArray) (w : World) (hs : s.size ≤ 140737488351232) : Calls Tryd.prog 47 #[.agg #[.int .u8 115, .int .i64 n, .string s], .int .u8 115] w fun e w' => e = .returned (.bool (suchS n s)) ∧ Below w.heap.size w w' := by
  obtain ⟨m, hm⟩ : ∃ m, m = s.size := ⟨_, rfl⟩
  have HM := Lib.hid hm
  by_cases h0 : n = 0
  · subst h0
    by_cases h1 : s.size ≤ 200
    · have d1 : decide ((s.size : Int) ≤ 200) = true := by simp; omega
      have HCL := Lib.hid (clean_any s)
      have hcb : suchS 0 s = cleanB s := by unfold suchS cleanB; simp; omega
      have HF := Lib.hid hcb
      clear h1 hm hcb
      go_enter Tryd.func47, Tryd.ntmps47
      go_wp2_with fail
      refine (HCL.out _ hs).mono ?_
      rintro e w' ⟨rfl, rfl⟩
      rw [← HF.out]
      go_wp2
      go_ret
      exact ⟨rfl, (Below.refl _ _).alloc (Nat.le_refl _) _⟩
    · have d1 : decide ((s.size : Int) ≤ 200) = false := by simp; omega
      have hf : Hid (suchS 0 s = false) := by show _ = _; unfold suchS; simp; omega
      clear h1 hm
      go_enter Tryd.func47, Tryd.ntmps47
      go_wp2
      go_ret
      rw [hf.out]
      exact ⟨rfl, (Below.refl _ _).alloc (Nat.le_refl _) _⟩
  · have d0 : (n == 0) = false := by simpa using h0
    have hf : Hid (suchS n s = false) := by show _ = _; unfold suchS; simp only [decide_eq_false_iff_not]; exact fun h => h0 h.1
    clear h0 hm
    go_enter Tryd.func47, Tryd.ntmps47
    go_wp2
    go_ret
    rw [hf.out]
    exact ⟨rfl, (Below.refl _ _).alloc (Nat.le_refl _) _⟩
set_option maxHeartbeats 800000 in
theorem rsuch_97 (n : Int) (s : ByteArray) (w : World) (hs : s.size ≤ 140737488351232) : Calls Tryd.prog 47 #[.agg #[.int .u8 97, .int .i64 n, .string s], .int .u8 97] w fun e w' => e = .returned (.bool (suchA n s)) ∧ Below w.heap.size w w' := by
  obtain ⟨m, hm⟩ : ∃ m, m = s.size := ⟨_, rfl⟩
  have HM := Lib.hid hm
  by_cases h0 : n = 0
  · subst h0
    by_cases h1 : s.size ≤ 200
    · have d1 : decide ((s.size : Int) ≤ 200) = true := by simp; omega
      have hf : Hid (suchA 0 s = true) := by show _ = _; unfold suchA; simp; omega
      clear h1 hm
      go_enter Tryd.func47, Tryd.ntmps47
      go_wp2
      go_ret
      rw [hf.out]
      exact ⟨rfl, (Below.refl _ _).alloc (Nat.le_refl _) _⟩
    · have d1 : decide ((s.size : Int) ≤ 200) = false := by simp; omega
      have hf : Hid (suchA 0 s = false) := by show _ = _; unfold suchA; simp; omega
      clear h1 hm
      go_enter Tryd.func47, Tryd.ntmps47
      go_wp2
      go_ret
      rw [hf.out]
      exact ⟨rfl, (Below.refl _ _).alloc (Nat.le_refl _) _⟩
  · have d0 : (n == 0) = false := by simpa using h0
    have hf : Hid (suchA n s = false) := by show _ = _; unfold suchA; simp only [decide_eq_false_iff_not]; exact fun h => h0 h.1
    clear h0 hm
    go_enter Tryd.func47, Tryd.ntmps47
    go_wp2
    go_ret
    rw [hf.out]
    exact ⟨rfl, (Below.refl _ _).alloc (Nat.le_refl _) _⟩
set_option maxHeartbeats 800000 in
theorem rsuch_no (k n : Int) (s : ByteArray) (w : World) (h : k ≠ 105 ∧ k ≠ 102 ∧ k ≠ 117 ∧ k ≠ 111 ∧ k ≠ 110 ∧ k ≠ 115 ∧ k ≠ 97) : Calls Tryd.prog 47 #[.agg #[.int .u8 k, .int .i64 n, .string s], .int .u8 k] w fun e w' => e = .returned (.bool false) ∧ Below w.heap.size w w' := by
  obtain ⟨h105, h102, h117, h111, h110, h115, h97⟩ := h
  have d105 : (k == 105) = false := by simpa using h105
  have d102 : (k == 102) = false := by simpa using h102
  have d117 : (k == 117) = false := by simpa using h117
  have d111 : (k == 111) = false := by simpa using h111
  have d110 : (k == 110) = false := by simpa using h110
  have d115 : (k == 115) = false := by simpa using h115
  have d97 : (k == 97) = false := by simpa using h97
  clear h105 h102 h117 h111 h110 h115 h97
  go_enter Tryd.func47, Tryd.ntmps47
  go_wp2
  go_ret
  exact ⟨rfl, (Below.refl _ _).alloc (Nat.le_refl _) _⟩
set_option maxHeartbeats 800000 in
theorem rsuch_ne (k l n : Int) (s : ByteArray) (w : World) (h : k ≠ l) : Calls Tryd.prog 47 #[.agg #[.int .u8 k, .int .i64 n, .string s], .int .u8 l] w fun e w' => e = .returned (.bool false) ∧ Below w.heap.size w w' := by
  have d : (k != l) = true := by simpa using h
  clear h
  go_enter Tryd.func47, Tryd.ntmps47
  go_wp2
  go_ret
  exact ⟨rfl, (Below.refl _ _).alloc (Nat.le_refl _) _⟩
theorem rsuch_any (k l n : Int) (s : ByteArray) (w : World) (hs : s.size ≤ 140737488351232) : Calls Tryd.prog 47 #[.agg #[.int .u8 k, .int .i64 n, .string s], .int .u8 l] w fun e w' => e = .returned (.bool (decide (k = l) && suchB k n s)) ∧ Below w.heap.size w w' := by
  by_cases hkl : k = l
  · subst hkl
    rw [decide_eq_true rfl, Bool.true_and]
    by_cases h : k ≠ 105 ∧ k ≠ 102 ∧ k ≠ 117 ∧ k ≠ 111 ∧ k ≠ 110 ∧ k ≠ 115 ∧ k ≠ 97
    · have e : suchB k n s = false := by
        obtain ⟨h105, h102, h117, h111, h110, h115, h97⟩ := h
        unfold suchB; rw [if_neg (by omega), if_neg (by omega), if_neg (by omega), if_neg (by omega), if_neg (by omega)]
      rw [e]; exact rsuch_no k n s w h
    · have : k = 105 ∨ k = 102 ∨ k = 117 ∨ k = 111 ∨ k = 110 ∨ k = 115 ∨ k = 97 := by omega
      rcases this with rfl | rfl | rfl | rfl | rfl | rfl | rfl
      · exact rsuch_105 n s w hs
      · exact rsuch_102 n s w hs
      · exact rsuch_117 n s w hs
      · exact rsuch_111 n s w hs
      · exact rsuch_110 n s w hs
      · exact rsuch_115 n s w hs
      · exact rsuch_97 n s w hs
  · rw [decide_eq_false hkl, Bool.false_and]; exact rsuch_ne k l n s w hkl
end Go.Proofs.YtihbgkighckiiaaDoor
