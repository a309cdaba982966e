/- wire.such: is an argument such as its letter says? No condition. (Printed by gen_such.py.) -/
import Derived.Test.YtihbgkighckiiaaDoorBase
import Derived.Test.YtihbgkighckiiaaDoorIdx
import Derived.Test.YtihbgkighckiiaaDoorChecked
namespace Go.Proofs.YtihbgkighckiiaaDoor
open Go.RowKit
set_option maxRecDepth 100000

/-- Numbers with a sign; without; an object's; a text; bytes. -/
def suchI (n : Int) (s : ByteArray) : Bool := decide (s.data.toList = [] ∧ -2147483648 ≤ n ∧ n ≤ 2147483647)
def suchU (n : Int) (s : ByteArray) : Bool := decide (s.data.toList = [] ∧ 0 ≤ n ∧ n ≤ 4294967295)
def suchN (n : Int) (s : ByteArray) : Bool := decide (s.data.toList = [] ∧ 1 ≤ n ∧ n ≤ 4294967295)
def suchS (n : Int) (s : ByteArray) : Bool := decide (n = 0 ∧ s.size ≤ 200 ∧ Lib.indexByte s.data.toList 0 < 0)
def suchA (n : Int) (s : ByteArray) : Bool := decide (n = 0 ∧ s.size ≤ 200)
def suchB (k n : Int) (s : ByteArray) : Bool :=
  if k = 105 ∨ k = 102 then suchI n s else if k = 117 ∨ k = 111 then suchU n s else if k = 110 then suchN n s else if k = 115 then suchS n s else if k = 97 then suchA n s else false
theorem empty_of {s : ByteArray} (h : s.data.toList = []) : s = ⟨#[]⟩ := Go.WideShapes.bytes_inj (by simpa using h)
theorem nonempty_of {s : ByteArray} (h : ¬ s.data.toList = []) : s.toList.isEmpty = false := by
  rw [ByteArray.toList_eq]
  cases h2 : s.data.toList with
  | nil => exact absurd h2 h
  | cons a l => rfl

set_option maxHeartbeats 800000 in
theorem such_105 (n : Int) (s : ByteArray) (w : World) (_ : s.size ≤ 140737488351232) : Calls Tryd.prog 36 #[.agg #[.int .u8 105, .int .i64 n, .string s]] w fun e w' => e = .returned (.bool (suchI n s)) ∧ Below w.heap.size w w' := by
  by_cases h0 : s.data.toList = []
  · obtain rfl := empty_of h0
    clear h0
    rcases Int.lt_or_le n (-2147483648) with h1 | h1
    · have hf : Hid (suchI n ⟨#[]⟩ = false) := by show _ = _; unfold suchI; simp; omega
      have d1 : decide (-2147483648 ≤ n) = false := by simpa using h1
      clear h1
      go_enter Tryd.func36, Tryd.ntmps36
      go_wp2
      go_ret
      rw [hf.out]
      exact ⟨rfl, (Below.refl _ _).alloc (Nat.le_refl _) _⟩
    · have d1 : decide (-2147483648 ≤ n) = true := by simpa using h1
      rcases Int.lt_or_le (2147483647) n with h2 | h2
      · have hf : Hid (suchI n ⟨#[]⟩ = false) := by show _ = _; unfold suchI; simp; omega
        have d2 : decide (n ≤ 2147483647) = false := by simpa using h2
        clear h1 h2
        go_enter Tryd.func36, Tryd.ntmps36
        go_wp2
        go_ret
        rw [hf.out]
        exact ⟨rfl, (Below.refl _ _).alloc (Nat.le_refl _) _⟩
      · have hf : Hid (suchI n ⟨#[]⟩ = true) := by show _ = _; unfold suchI; simp; omega
        have d2 : decide (n ≤ 2147483647) = true := by simpa using h2
        clear h1 h2
        go_enter Tryd.func36, Tryd.ntmps36
        go_wp2
        go_ret
        rw [hf.out]
        exact ⟨rfl, (Below.refl _ _).alloc (Nat.le_refl _) _⟩
  · have hf : Hid (suchI n s = false) := by show _ = _; unfold suchI; simp only [decide_eq_false_iff_not]; exact fun h => h0 h.1
    have d0 := nonempty_of h0
    clear h0
    go_enter Tryd.func36, Tryd.ntmps36
    go_wp2
    go_ret
    rw [hf.out]
    exact ⟨rfl, (Below.refl _ _).alloc (Nat.le_refl _) _⟩
set_option maxHeartbeats 800000 in
theorem such_102 (n : Int) (s : ByteArray) (w : World) (_ : s.size ≤ 140737488351232) : Calls Tryd.prog 36 #[.agg #[.int .u8 102, .int .i64 n, .string s]] w fun e w' => e = .returned (.bool (suchI n s)) ∧ Below w.heap.size w w' := by
  by_cases h0 : s.data.toList = []
  · obtain rfl := empty_of h0
    clear h0
    rcases Int.lt_or_le n (-2147483648) with h1 | h1
    · have hf : Hid (suchI n ⟨#[]⟩ = false) := by show _ = _; unfold suchI; simp; omega
      have d1 : decide (-2147483648 ≤ n) = false := by simpa using h1
      clear h1
      go_enter Tryd.func36, Tryd.ntmps36
      go_wp2
      go_ret
      rw [hf.out]
      exact ⟨rfl, (Below.refl _ _).alloc (Nat.le_refl _) _⟩
    · have d1 : decide (-2147483648 ≤ n) = true := by simpa using h1
      rcases Int.lt_or_le (2147483647) n with h2 | h2
      · have hf : Hid (suchI n ⟨#[]⟩ = false) := by show _ = _; unfold suchI; simp; omega
        have d2 : decide (n ≤ 2147483647) = false := by simpa using h2
        clear h1 h2
        go_enter Tryd.func36, Tryd.ntmps36
        go_wp2
        go_ret
        rw [hf.out]
        exact ⟨rfl, (Below.refl _ _).alloc (Nat.le_refl _) _⟩
      · have hf : Hid (suchI n ⟨#[]⟩ = true) := by show _ = _; unfold suchI; simp; omega
        have d2 : decide (n ≤ 2147483647) = true := by simpa using h2
        clear h1 h2
        go_enter Tryd.func36, Tryd.ntmps36
        go_wp2
        go_ret
        rw [hf.out]
        exact ⟨rfl, (Below.refl _ _).alloc (Nat.le_refl _) _⟩
  · have hf : Hid (suchI n s = false) := by show _ = _; unfold suchI; simp only [decide_eq_false_iff_not]; exact fun h => h0 h.1
    have d0 := nonempty_of h0
    clear h0
    go_enter Tryd.func36, Tryd.ntmps36
    go_wp2
    go_ret
    rw [hf.out]
    exact ⟨rfl, (Below.refl _ _).alloc (Nat.le_refl _) _⟩
set_option maxHeartbeats 800000 in
theorem such_117 (n : Int) (s : ByteArray) (w : World) (_ : s.size ≤ 140737488351232) : Calls Tryd.prog 36 #[.agg #[.int .u8 117, .int .i64 n, .string s]] w fun e w' => e = .returned (.bool (suchU n s)) ∧ Below w.heap.size w w' := by
  by_cases h0 : s.data.toList = []
  · obtain rfl := empty_of h0
    clear h0
    rcases Int.lt_or_le n (0) with h1 | h1
    · have hf : Hid (suchU n ⟨#[]⟩ = false) := by show _ = _; unfold suchU; simp; omega
      have d1 : decide (0 ≤ n) = false := by simpa using h1
      clear h1
      go_enter Tryd.func36, Tryd.ntmps36
      go_wp2
      go_ret
      rw [hf.out]
      exact ⟨rfl, (Below.refl _ _).alloc (Nat.le_refl _) _⟩
    · have d1 : decide (0 ≤ n) = true := by simpa using h1
      rcases Int.lt_or_le (4294967295) n with h2 | h2
      · have hf : Hid (suchU n ⟨#[]⟩ = false) := by show _ = _; unfold suchU; simp; omega
        have d2 : decide (n ≤ 4294967295) = false := by simpa using h2
        clear h1 h2
        go_enter Tryd.func36, Tryd.ntmps36
        go_wp2
        go_ret
        rw [hf.out]
        exact ⟨rfl, (Below.refl _ _).alloc (Nat.le_refl _) _⟩
      · have hf : Hid (suchU n ⟨#[]⟩ = true) := by show _ = _; unfold suchU; simp; omega
        have d2 : decide (n ≤ 4294967295) = true := by simpa using h2
        clear h1 h2
        go_enter Tryd.func36, Tryd.ntmps36
        go_wp2
        go_ret
        rw [hf.out]
        exact ⟨rfl, (Below.refl _ _).alloc (Nat.le_refl _) _⟩
  · have hf : Hid (suchU n s = false) := by show _ = _; unfold suchU; simp only [decide_eq_false_iff_not]; exact fun h => h0 h.1
    have d0 := nonempty_of h0
    clear h0
    go_enter Tryd.func36, Tryd.ntmps36
    go_wp2
    go_ret
    rw [hf.out]
    exact ⟨rfl, (Below.refl _ _).alloc (Nat.le_refl _) _⟩
set_option maxHeartbeats 800000 in
theorem such_111 (n : Int) (s : ByteArray) (w : World) (_ : s.size ≤ 140737488351232) : Calls Tryd.prog 36 #[.agg #[.int .u8 111, .int .i64 n, .string s]] w fun e w' => e = .returned (.bool (suchU n s)) ∧ Below w.heap.size w w' := by
  by_cases h0 : s.data.toList = []
  · obtain rfl := empty_of h0
    clear h0
    rcases Int.lt_or_le n (0) with h1 | h1
    · have hf : Hid (suchU n ⟨#[]⟩ = false) := by show _ = _; unfold suchU; simp; omega
      have d1 : decide (0 ≤ n) = false := by simpa using h1
      clear h1
      go_enter Tryd.func36, Tryd.ntmps36
      go_wp2
      go_ret
      rw [hf.out]
      exact ⟨rfl, (Below.refl _ _).alloc (Nat.le_refl _) _⟩
    · have d1 : decide (0 ≤ n) = true := by simpa using h1
      rcases Int.lt_or_le (4294967295) n with h2 | h2
      · have hf : Hid (suchU n ⟨#[]⟩ = false) := by show _ = _; unfold suchU; simp; omega
        have d2 : decide (n ≤ 4294967295) = false := by simpa using h2
        clear h1 h2
        go_enter Tryd.func36, Tryd.ntmps36
        go_wp2
        go_ret
        rw [hf.out]
        exact ⟨rfl, (Below.refl _ _).alloc (Nat.le_refl _) _⟩
      · have hf : Hid (suchU n ⟨#[]⟩ = true) := by show _ = _; unfold suchU; simp; omega
        have d2 : decide (n ≤ 4294967295) = true := by simpa using h2
        clear h1 h2
        go_enter Tryd.func36, Tryd.ntmps36
        go_wp2
        go_ret
        rw [hf.out]
        exact ⟨rfl, (Below.refl _ _).alloc (Nat.le_refl _) _⟩
  · have hf : Hid (suchU n s = false) := by show _ = _; unfold suchU; simp only [decide_eq_false_iff_not]; exact fun h => h0 h.1
    have d0 := nonempty_of h0
    clear h0
    go_enter Tryd.func36, Tryd.ntmps36
    go_wp2
    go_ret
    rw [hf.out]
    exact ⟨rfl, (Below.refl _ _).alloc (Nat.le_refl _) _⟩
set_option maxHeartbeats 800000 in
theorem such_110 (n : Int) (s : ByteArray) (w : World) (_ : s.size ≤ 140737488351232) : Calls Tryd.prog 36 #[.agg #[.int .u8 110, .int .i64 n, .string s]] w fun e w' => e = .returned (.bool (suchN n s)) ∧ Below w.heap.size w w' := by
  by_cases h0 : s.data.toList = []
  · obtain rfl := empty_of h0
    clear h0
    rcases Int.lt_or_le n (1) with h1 | h1
    · have hf : Hid (suchN n ⟨#[]⟩ = false) := by show _ = _; unfold suchN; simp; omega
      have d1 : decide (1 ≤ n) = false := by simpa using h1
      clear h1
      go_enter Tryd.func36, Tryd.ntmps36
      go_wp2
      go_ret
      rw [hf.out]
      exact ⟨rfl, (Below.refl _ _).alloc (Nat.le_refl _) _⟩
    · have d1 : decide (1 ≤ n) = true := by simpa using h1
      rcases Int.lt_or_le (4294967295) n with h2 | h2
      · have hf : Hid (suchN n ⟨#[]⟩ = false) := by show _ = _; unfold suchN; simp; omega
        have d2 : decide (n ≤ 4294967295) = false := by simpa using h2
        clear h1 h2
        go_enter Tryd.func36, Tryd.ntmps36
        go_wp2
        go_ret
        rw [hf.out]
        exact ⟨rfl, (Below.refl _ _).alloc (Nat.le_refl _) _⟩
      · have hf : Hid (suchN n ⟨#[]⟩ = true) := by show _ = _; unfold suchN; simp; omega
        have d2 : decide (n ≤ 4294967295) = true := by simpa using h2
        clear h1 h2
        go_enter Tryd.func36, Tryd.ntmps36
        go_wp2
        go_ret
        rw [hf.out]
        exact ⟨rfl, (Below.refl _ _).alloc (Nat.le_refl _) _⟩
  · have hf : Hid (suchN n s = false) := by show _ = _; unfold suchN; simp only [decide_eq_false_iff_not]; exact fun h => h0 h.1
    have d0 := nonempty_of h0
    clear h0
    go_enter Tryd.func36, Tryd.ntmps36
    go_wp2
    go_ret
    rw [hf.out]
    exact ⟨rfl, (Below.refl _ _).alloc (Nat.le_refl _) _⟩
set_option maxHeartbeats 800000 in
theorem such_115 (n : Int) (s : ByteArray) (w : World) (hs : s.size ≤ 140737488351232) : Calls Tryd.prog 36 #[.agg #[.int .u8 115, .int .i64 n, .string s]] w fun e w' => e = .returned (.bool (suchS n s)) ∧ Below w.heap.size w w' := by
  obtain ⟨m, hm⟩ : ∃ m, m = s.size := ⟨_, rfl⟩
  have HM := Lib.hid hm
  by_cases h0 : n = 0
  · subst h0
    by_cases h1 : s.size ≤ 200
    · have d1 : decide ((s.size : Int) ≤ 200) = true := by simp; omega
      obtain ⟨q, hq⟩ : ∃ q, q = Lib.indexByte s.data.toList 0 := ⟨_, rfl⟩
      have HQ : Hid (Lib.indexByte s.data.toList (0 : Int).toNat.toUInt8 = q) := hq.symm
      rcases Int.lt_or_le q 0 with h2 | h2
      · have hf : Hid (suchS 0 s = true) := by show _ = _; unfold suchS; rw [← hq]; simp; omega
        have d2 : decide (q < 0) = true := by simpa using h2
        clear h1 h2 hq hm
        go_enter Tryd.func36, Tryd.ntmps36
        go_wp2_with fail
        refine (indexByte_any s 0 _).mono ?_
        rintro e w' ⟨rfl, rfl⟩
        rw [HQ.out]
        go_wp2
        go_ret
        rw [hf.out]
        exact ⟨rfl, (Below.refl _ _).alloc (Nat.le_refl _) _⟩
      · have hf : Hid (suchS 0 s = false) := by show _ = _; unfold suchS; rw [← hq]; simp; omega
        have d2 : decide (q < 0) = false := by simpa using h2
        clear h1 h2 hq hm
        go_enter Tryd.func36, Tryd.ntmps36
        go_wp2_with fail
        refine (indexByte_any s 0 _).mono ?_
        rintro e w' ⟨rfl, rfl⟩
        rw [HQ.out]
        go_wp2
        go_ret
        rw [hf.out]
        exact ⟨rfl, (Below.refl _ _).alloc (Nat.le_refl _) _⟩
    · have d1 : decide ((s.size : Int) ≤ 200) = false := by simp; omega
      have hf : Hid (suchS 0 s = false) := by show _ = _; unfold suchS; simp; omega
      clear h1 hm
      go_enter Tryd.func36, Tryd.ntmps36
      go_wp2
      go_ret
      rw [hf.out]
      exact ⟨rfl, (Below.refl _ _).alloc (Nat.le_refl _) _⟩
  · have d0 : (n == 0) = false := by simpa using h0
    have hf : Hid (suchS n s = false) := by show _ = _; unfold suchS; simp only [decide_eq_false_iff_not]; exact fun h => h0 h.1
    clear h0 hm
    go_enter Tryd.func36, Tryd.ntmps36
    go_wp2
    go_ret
    rw [hf.out]
    exact ⟨rfl, (Below.refl _ _).alloc (Nat.le_refl _) _⟩
set_option maxHeartbeats 800000 in
theorem such_97 (n : Int) (s : ByteArray) (w : World) (hs : s.size ≤ 140737488351232) : Calls Tryd.prog 36 #[.agg #[.int .u8 97, .int .i64 n, .string s]] w fun e w' => e = .returned (.bool (suchA n s)) ∧ Below w.heap.size w w' := by
  obtain ⟨m, hm⟩ : ∃ m, m = s.size := ⟨_, rfl⟩
  have HM := Lib.hid hm
  by_cases h0 : n = 0
  · subst h0
    by_cases h1 : s.size ≤ 200
    · have d1 : decide ((s.size : Int) ≤ 200) = true := by simp; omega
      have hf : Hid (suchA 0 s = true) := by show _ = _; unfold suchA; simp; omega
      clear h1 hm
      go_enter Tryd.func36, Tryd.ntmps36
      go_wp2
      go_ret
      rw [hf.out]
      exact ⟨rfl, (Below.refl _ _).alloc (Nat.le_refl _) _⟩
    · have d1 : decide ((s.size : Int) ≤ 200) = false := by simp; omega
      have hf : Hid (suchA 0 s = false) := by show _ = _; unfold suchA; simp; omega
      clear h1 hm
      go_enter Tryd.func36, Tryd.ntmps36
      go_wp2
      go_ret
      rw [hf.out]
      exact ⟨rfl, (Below.refl _ _).alloc (Nat.le_refl _) _⟩
  · have d0 : (n == 0) = false := by simpa using h0
    have hf : Hid (suchA n s = false) := by show _ = _; unfold suchA; simp only [decide_eq_false_iff_not]; exact fun h => h0 h.1
    clear h0 hm
    go_enter Tryd.func36, Tryd.ntmps36
    go_wp2
    go_ret
    rw [hf.out]
    exact ⟨rfl, (Below.refl _ _).alloc (Nat.le_refl _) _⟩
set_option maxHeartbeats 800000 in
theorem such_no (k n : Int) (s : ByteArray) (w : World) (h : k ≠ 105 ∧ k ≠ 102 ∧ k ≠ 117 ∧ k ≠ 111 ∧ k ≠ 110 ∧ k ≠ 115 ∧ k ≠ 97) : Calls Tryd.prog 36 #[.agg #[.int .u8 k, .int .i64 n, .string s]] w fun e w' => e = .returned (.bool false) ∧ Below w.heap.size w w' := by
  obtain ⟨h105, h102, h117, h111, h110, h115, h97⟩ := h
  have d105 : (k == 105) = false := by simpa using h105
  have d102 : (k == 102) = false := by simpa using h102
  have d117 : (k == 117) = false := by simpa using h117
  have d111 : (k == 111) = false := by simpa using h111
  have d110 : (k == 110) = false := by simpa using h110
  have d115 : (k == 115) = false := by simpa using h115
  have d97 : (k == 97) = false := by simpa using h97
  clear h105 h102 h117 h111 h110 h115 h97
  go_enter Tryd.func36, Tryd.ntmps36
  go_wp2
  go_ret
  exact ⟨rfl, (Below.refl _ _).alloc (Nat.le_refl _) _⟩
theorem such_any (k n : Int) (s : ByteArray) (w : World) (hs : s.size ≤ 140737488351232) : Calls Tryd.prog 36 #[.agg #[.int .u8 k, .int .i64 n, .string s]] w fun e w' => e = .returned (.bool (suchB k n s)) ∧ Below w.heap.size w w' := by
  by_cases h : k ≠ 105 ∧ k ≠ 102 ∧ k ≠ 117 ∧ k ≠ 111 ∧ k ≠ 110 ∧ k ≠ 115 ∧ k ≠ 97
  · have e : suchB k n s = false := by
      obtain ⟨h105, h102, h117, h111, h110, h115, h97⟩ := h
      unfold suchB; rw [if_neg (by omega), if_neg (by omega), if_neg (by omega), if_neg (by omega), if_neg (by omega)]
    rw [e]; exact such_no k n s w h
  · have : k = 105 ∨ k = 102 ∨ k = 117 ∨ k = 111 ∨ k = 110 ∨ k = 115 ∨ k = 97 := by omega
    rcases this with rfl | rfl | rfl | rfl | rfl | rfl | rfl
    · exact such_105 n s w hs
    · exact such_102 n s w hs
    · exact such_117 n s w hs
    · exact such_111 n s w hs
    · exact such_110 n s w hs
    · exact such_115 n s w hs
    · exact such_97 n s w hs
end Go.Proofs.YtihbgkighckiiaaDoor
