/- What WordAll needs beyond the contracts of word and ref01: the copy with one byte behind it; ref01.Fixed and ref01.Whole; the answers' parts. No condition. -/
import Derived.Test.YtnaagmjjnapklaaDoorRef3
import Derived.Test.YtnaagmjjnapklaaDoorFix
import Derived.Test.YtnaagmjjnapklaaDoorWordL
namespace Go.Proofs.YtnaagmjjnapklaaDoor
open Go.RowKit
set_option linter.unusedVariables false

theorem wa_cp {w : World} {A : Option Addr} {n c : Nat} {bs : List UInt8} (ty : TypeId) (hs : SlN w w.heap.size 1 (.slice A n c) n (bv bs)) (hn : n ≤ 140737488351232) :
    ∃ v' w', (Builtin.append_ #[23, 23] ty #[.slice none 0 0, .slice A n c]).run Tryd.prog w = .ok v' w' ∧ Hid (w'.ownsRow w.heap.size 5 1 v' n (bv bs) ∧ Below w.heap.size w w') := by
  obtain ⟨i, hi, hz, hs1, hby⟩ := info_parts Tryd.infoU8
  obtain ⟨v', w', hr, h2, h3⟩ := run_app_own (ty := ty) Tryd.underlying23 hi hz hs1 rfl (World.ownsRow_nil w w.heap.size 5 1) hs (bv_one bs) (Nat.le_refl _) ⟨by omega, .inr hby⟩
  rw [Nat.zero_add, List.nil_append] at h2
  exact ⟨v', w', hr, h2, h3⟩
theorem wa_99 {w wr : World} {A : Option Addr} {n c : Nat} {bs : List UInt8} (ty : TypeId) (h : Hid (wr.ownsRow w.heap.size 5 1 (.slice A n c) n (bv bs) ∧ Below w.heap.size w wr)) (hn : n ≤ 140737488351232) :
    ∃ v' w', (Builtin.append_ #[23, 23] ty #[.slice A n c, .slice (some ⟨wr.heap.size, 0, none⟩) 1 1]).run Tryd.prog (wr.alloc (.cells #[.int .u8 99] 5)) = .ok v' w' ∧
      Hid (w'.ownsRow w.heap.size 5 1 v' (n + 1) (bv bs ++ [.int .u8 99]) ∧ Below w.heap.size w w') := by
  obtain ⟨i, hi, hz, hs1, hby⟩ := info_parts Tryd.infoU8
  have hlit := sl_lit wr 5 [.int .u8 99] 1 rfl (by unfold maxLen; omega)
  have hbs := h.out.2.size
  obtain ⟨v', w', hr, h2, h3⟩ := run_app_own (ty := ty) Tryd.underlying23 hi hz hs1 rfl (h.out.1.alloc (.cells [Value.int .u8 99].toArray 5)) hlit (by simp [Value.oneCell']) (by simp; omega) ⟨by omega, .inr hby⟩
  exact ⟨v', w', hr, h2, (h.out.2.alloc hbs _).trans h3⟩
theorem own_some {w : World} {B n : Nat} {e : TypeId} {v : Value} {xs : List Value} (h : w.ownsRow B e 1 v (n + 1) xs) : ∃ g c, v = .slice (some ⟨g, 0, none⟩) (n + 1) c ∧ n + 1 ≤ c := by
  rcases h.2 with ⟨rfl, h0⟩ | ⟨b, cap, cur, rfl, hx⟩
  · omega
  · exact ⟨_, _, rfl, by have := hx; omega⟩
theorem sl_last {w : World} {B g n c : Nat} {bs : List UInt8} (h : SlN w B 1 (.slice (some ⟨g, 0, none⟩) (n + 1) c) (n + 1) (bv bs ++ [.int .u8 99])) (hl : n = bs.length) : w.cell? ⟨g, n, none⟩ = some (.int .u8 99) := by
  obtain ⟨_, A, c', hv, _, _, _, hx⟩ := h
  injection hv with e1 e2 e3
  obtain ⟨b, off, he, _, hc⟩ := hx (by omega)
  rw [← e1] at he
  injection he with he
  injection he with h1 h2 h3
  subst h1 h2
  have := hc n (.int .u8 99) (by rw [List.getElem?_append_right (by rw [bv_length]; omega), bv_length, hl]; simp)
  simpa using this
theorem rfixed_any (n : Int) (w : World) : Calls Tryd.prog 22 #[.int .i64 n] w fun e w' => e = .returned (.int .i32 (fixI n)) ∧ w = w' := by
  by_cases h1 : 8388607 < n
  · have hf : fixI n = 2147483392 := by simp [fixI, h1]
    have H := Lib.hid hf
    clear hf
    have h2 : ¬ (n < -8388608) := by omega
    have h4 : ¬ (n ≤ -8388608) := by omega
    have h3 : ¬ (n < 8388607) := by omega
    have h5 : -8388608 < n := by omega
    have h6 : ¬ (n ≤ 8388607) := by omega
    go_enter Tryd.func22, Tryd.ntmps22
    go_wp2
    go_ret
    exact ⟨ret_int H.out.symm, rfl⟩
  · by_cases h2 : n < -8388608
    · have hf : fixI n = -2147483648 := by simp only [fixI]; split <;> (try split) <;> omega
      have H := Lib.hid hf
      clear hf
      have h3 : ¬ (-8388608 < n) := by omega
      have h4 : ¬ (-8388608 ≤ n) := by omega
      have h5 : n ≤ -8388608 := by omega
      go_enter Tryd.func22, Tryd.ntmps22
      go_wp2
      go_ret
      exact ⟨ret_int H.out.symm, rfl⟩
    · have hf : fixI n = n * 256 := by simp only [fixI]; split <;> (try split) <;> omega
      have H := Lib.hid hf
      clear hf
      go_enter Tryd.func22, Tryd.ntmps22
      go_wp2
      go_ret
      exact ⟨ret_int H.out.symm, rfl⟩
theorem rwhole_any (v : Int) (w : World) (h0 : -2147483648 ≤ v) (h1 : v < 2147483648) : Calls Tryd.prog 24 #[.int .i32 v] w fun e w' => e = .returned (.int .i64 (v / 256)) ∧ w = w' := by
  go_enter Tryd.func24, Tryd.ntmps24
  go_wp2
  go_ret
  exact ⟨rfl, rfl⟩
theorem gotE_le (bs : List UInt8) (at_ : Int) (least : Nat) : gotE bs at_ least ≤ 4 := by
  have h : getE bs at_ ≤ 4 := by unfold getE; split <;> (try split) <;> omega
  simp only [gotE]
  repeat' split
  all_goals omega
theorem got_parts (A : Nat → Addr) (bs : List UInt8) (at_ : Int) : ∃ (T : ByteArray) (I : Int) (q : Nat), q ≤ 16 ∧ gotR A bs at_ 0 = .tuple #[.string T, .int .i64 I, errV A q] ∧ rgotR bs at_ = .tuple #[.string T, .int .i64 I, .int .i64 q] := by
  unfold gotR rgotR
  have := gotE_le bs at_ 0
  split
  · exact ⟨_, _, 0, by omega, rfl, rfl⟩
  · exact ⟨_, _, gotE bs at_ 0, by omega, rfl, rfl⟩
theorem text_parts (A : Nat → Addr) (bs : List UInt8) (at_ : Int) : ∃ (T : ByteArray) (I : Int) (q : Nat), q ≤ 16 ∧ textR A bs at_ = .tuple #[.string T, .int .i64 I, errV A q] ∧ rtextR bs at_ = .tuple #[.string T, .int .i64 I, .int .i64 q] := by
  have hle : textE bs at_ ≤ 4 := by
    have := gotE_le bs at_ 1
    unfold textE
    repeat' split
    all_goals omega
  unfold textR rtextR
  split
  · exact ⟨_, _, 0, by omega, rfl, rfl⟩
  · exact ⟨_, _, textE bs at_, by omega, rfl, rfl⟩
end Go.Proofs.YtnaagmjjnapklaaDoor
