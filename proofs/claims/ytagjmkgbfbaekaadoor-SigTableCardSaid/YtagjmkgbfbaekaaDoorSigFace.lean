/- sig.Face. No condition. -/
import Derived.Test.YtagjmkgbfbaekaaDoorSigFn
namespace Go.Proofs.YtagjmkgbfbaekaaDoor
open Go.RowKit
set_option maxRecDepth 100000

/-- The interface of a name: the first that bears it. -/
def faceFrom (s : ByteArray) : Nat → Nat → Nat
  | _, 0 => 0
  | i, n + 1 => if 0 < i ∧ nameOf i = s then i else faceFrom s (i + 1) n
def faceOf (s : ByteArray) : Nat := faceFrom s 0 18
theorem ik0 (R E : Nat → Value) (w : World) : (Instr.index 102 (.agg (tabArr R E)) (.int .i64 ((0 : Nat) : Int))).run Tryd.prog w = .ok (.agg #[.string (nameOf 0), R 0, E 0]) w := by kernel_rfl
theorem ik1 (R E : Nat → Value) (w : World) : (Instr.index 102 (.agg (tabArr R E)) (.int .i64 ((1 : Nat) : Int))).run Tryd.prog w = .ok (.agg #[.string (nameOf 1), R 1, E 1]) w := by kernel_rfl
theorem ik2 (R E : Nat → Value) (w : World) : (Instr.index 102 (.agg (tabArr R E)) (.int .i64 ((2 : Nat) : Int))).run Tryd.prog w = .ok (.agg #[.string (nameOf 2), R 2, E 2]) w := by kernel_rfl
theorem ik3 (R E : Nat → Value) (w : World) : (Instr.index 102 (.agg (tabArr R E)) (.int .i64 ((3 : Nat) : Int))).run Tryd.prog w = .ok (.agg #[.string (nameOf 3), R 3, E 3]) w := by kernel_rfl
theorem ik4 (R E : Nat → Value) (w : World) : (Instr.index 102 (.agg (tabArr R E)) (.int .i64 ((4 : Nat) : Int))).run Tryd.prog w = .ok (.agg #[.string (nameOf 4), R 4, E 4]) w := by kernel_rfl
theorem ik5 (R E : Nat → Value) (w : World) : (Instr.index 102 (.agg (tabArr R E)) (.int .i64 ((5 : Nat) : Int))).run Tryd.prog w = .ok (.agg #[.string (nameOf 5), R 5, E 5]) w := by kernel_rfl
theorem ik6 (R E : Nat → Value) (w : World) : (Instr.index 102 (.agg (tabArr R E)) (.int .i64 ((6 : Nat) : Int))).run Tryd.prog w = .ok (.agg #[.string (nameOf 6), R 6, E 6]) w := by kernel_rfl
theorem ik7 (R E : Nat → Value) (w : World) : (Instr.index 102 (.agg (tabArr R E)) (.int .i64 ((7 : Nat) : Int))).run Tryd.prog w = .ok (.agg #[.string (nameOf 7), R 7, E 7]) w := by kernel_rfl
theorem ik8 (R E : Nat → Value) (w : World) : (Instr.index 102 (.agg (tabArr R E)) (.int .i64 ((8 : Nat) : Int))).run Tryd.prog w = .ok (.agg #[.string (nameOf 8), R 8, E 8]) w := by kernel_rfl
theorem ik9 (R E : Nat → Value) (w : World) : (Instr.index 102 (.agg (tabArr R E)) (.int .i64 ((9 : Nat) : Int))).run Tryd.prog w = .ok (.agg #[.string (nameOf 9), R 9, E 9]) w := by kernel_rfl
theorem ik10 (R E : Nat → Value) (w : World) : (Instr.index 102 (.agg (tabArr R E)) (.int .i64 ((10 : Nat) : Int))).run Tryd.prog w = .ok (.agg #[.string (nameOf 10), R 10, E 10]) w := by kernel_rfl
theorem ik11 (R E : Nat → Value) (w : World) : (Instr.index 102 (.agg (tabArr R E)) (.int .i64 ((11 : Nat) : Int))).run Tryd.prog w = .ok (.agg #[.string (nameOf 11), R 11, E 11]) w := by kernel_rfl
theorem ik12 (R E : Nat → Value) (w : World) : (Instr.index 102 (.agg (tabArr R E)) (.int .i64 ((12 : Nat) : Int))).run Tryd.prog w = .ok (.agg #[.string (nameOf 12), R 12, E 12]) w := by kernel_rfl
theorem ik13 (R E : Nat → Value) (w : World) : (Instr.index 102 (.agg (tabArr R E)) (.int .i64 ((13 : Nat) : Int))).run Tryd.prog w = .ok (.agg #[.string (nameOf 13), R 13, E 13]) w := by kernel_rfl
theorem ik14 (R E : Nat → Value) (w : World) : (Instr.index 102 (.agg (tabArr R E)) (.int .i64 ((14 : Nat) : Int))).run Tryd.prog w = .ok (.agg #[.string (nameOf 14), R 14, E 14]) w := by kernel_rfl
theorem ik15 (R E : Nat → Value) (w : World) : (Instr.index 102 (.agg (tabArr R E)) (.int .i64 ((15 : Nat) : Int))).run Tryd.prog w = .ok (.agg #[.string (nameOf 15), R 15, E 15]) w := by kernel_rfl
theorem ik16 (R E : Nat → Value) (w : World) : (Instr.index 102 (.agg (tabArr R E)) (.int .i64 ((16 : Nat) : Int))).run Tryd.prog w = .ok (.agg #[.string (nameOf 16), R 16, E 16]) w := by kernel_rfl
theorem ik17 (R E : Nat → Value) (w : World) : (Instr.index 102 (.agg (tabArr R E)) (.int .i64 ((17 : Nat) : Int))).run Tryd.prog w = .ok (.agg #[.string (nameOf 17), R 17, E 17]) w := by kernel_rfl
theorem index_kind (R E : Nat → Value) (f : Nat) (h : f < 18) (w : World) : (Instr.index 102 (.agg (tabArr R E)) (.int .i64 f)).run Tryd.prog w = .ok (.agg #[.string (nameOf f), R f, E f]) w := by
  have : f = 0 ∨ f = 1 ∨ f = 2 ∨ f = 3 ∨ f = 4 ∨ f = 5 ∨ f = 6 ∨ f = 7 ∨ f = 8 ∨ f = 9 ∨ f = 10 ∨ f = 11 ∨ f = 12 ∨ f = 13 ∨ f = 14 ∨ f = 15 ∨ f = 16 ∨ f = 17 := by omega
  rcases this with rfl | rfl | rfl | rfl | rfl | rfl | rfl | rfl | rfl | rfl | rfl | rfl | rfl | rfl | rfl | rfl | rfl | rfl
  · exact ik0 R E w
  · exact ik1 R E w
  · exact ik2 R E w
  · exact ik3 R E w
  · exact ik4 R E w
  · exact ik5 R E w
  · exact ik6 R E w
  · exact ik7 R E w
  · exact ik8 R E w
  · exact ik9 R E w
  · exact ik10 R E w
  · exact ik11 R E w
  · exact ik12 R E w
  · exact ik13 R E w
  · exact ik14 R E w
  · exact ik15 R E w
  · exact ik16 R E w
  · exact ik17 R E w

theorem str_ne {a b : ByteArray} (h : a ≠ b) : (a.toList == b.toList) = false := by
  rw [ByteArray.toList_eq, ByteArray.toList_eq, beq_eq_false_iff_ne]
  exact fun e => h (Go.WideShapes.bytes_inj e)
def FaceRel (w : World) (s : ByteArray) (a : Value) (wr : World) : Prop := ∃ i : Nat, i ≤ 18 ∧ a = .int .i64 i ∧ faceOf s = faceFrom s i (18 - i) ∧ Below w.heap.size w wr

set_option maxHeartbeats 1600000 in
theorem face_any (s : ByteArray) (w : World) : Calls Tryd.prog 46 #[.string s] w fun e w' => e = .returned (.int .i64 (faceOf s)) ∧ Below w.heap.size w w' := by
  go_enter Tryd.func46, Tryd.ntmps46
  go_wp2_with fail
  refine (table_any _).mono ?_
  rintro e w1 ⟨R, E, rfl, htab, hb1⟩
  have HB1 := Lib.hid hb1
  have HFORM : Hid (∀ f, f < 18 → (∃ A n c, R f = .slice A n c) ∧ ∃ A n c, E f = .slice A n c) := fun f hf => by
    obtain ⟨A, c, h, _⟩ := (htab f hf).1.1.form
    obtain ⟨A', c', h', _⟩ := (htab f hf).2.1.form
    exact ⟨⟨A, _, c, h⟩, A', _, c', h'⟩
  clear htab hb1
  obtain ⟨T, hT⟩ : ∃ T, T = tabArr R E := ⟨_, rfl⟩
  rw [← hT]
  have HT := Lib.hid hT
  clear hT
  go_wp2_with fail
  go_loopw [6] (FaceRel w s) (fun a _ => 18 - (intOf a).toNat)
  case atStart => exact ⟨0, by omega, rfl, rfl, HB1.out⟩
  case round =>
    obtain ⟨i, hi, rfl, hf, hb⟩ := hrel
    have HB := Lib.hid hb
    have hbs := hb.size
    have HF := Lib.hid hf
    clear hb hf
    by_cases hlt : i < 18
    · have hidx := index_kind R E i hlt
      rw [← HT.out] at hidx
      obtain ⟨⟨ra, rn, rc, hr⟩, ea, en, ec, he⟩ := HFORM.out i hlt
      rw [hr, he] at hidx
      obtain ⟨nm, hnm⟩ : ∃ nm, nm = nameOf i := ⟨_, rfl⟩
      rw [← hnm] at hidx
      have HNM := Lib.hid hnm
      have hstep : Hid (faceFrom s i (18 - i) = if 0 < i ∧ nameOf i = s then i else faceFrom s (i + 1) (18 - (i + 1))) := by
        have : 18 - i = (18 - (i + 1)) + 1 := by omega
        show _ = _
        rw [this]; rfl
      clear hr he hnm
      by_cases h0 : 0 < i
      · by_cases hs : nm = s
        · have hfin : faceOf s = i := by rw [HF.out, hstep.out, if_pos ⟨h0, by rw [← HNM.out]; exact hs⟩]
          have HFI := Lib.hid hfin
          clear hfin
          go_wp2_with fail
          go_ret
          rw [HFI.out]
          exact ⟨rfl, HB.out.alloc hbs _⟩
        · have hfin : faceOf s = faceFrom s (i + 1) (18 - (i + 1)) := by rw [HF.out, hstep.out, if_neg (fun h => hs (by rw [HNM.out]; exact h.2))]
          have HFI := Lib.hid hfin
          have hne := str_ne hs
          clear hfin hs
          go_wp2_with fail
          go_roundw
          case rel => exact ⟨i + 1, by omega, by go_num, HFI.out, HB.out.alloc hbs _⟩
          case measure => simp [intOf]; omega
      · have hfin : faceOf s = faceFrom s (i + 1) (18 - (i + 1)) := by rw [HF.out, hstep.out, if_neg (by omega)]
        have HFI := Lib.hid hfin
        have hd : decide (0 < (i : Int)) = false := by simpa using h0
        clear hfin
        go_wp2_with fail
        go_roundw
        case rel => exact ⟨i + 1, by omega, by go_num, HFI.out, HB.out.alloc hbs _⟩
        case measure => simp [intOf]; omega
    · obtain rfl : i = 18 := by omega
      have hfin : faceOf s = 0 := HF.out
      have HFI := Lib.hid hfin
      clear hfin
      go_wp2_with fail
      go_ret
      rw [HFI.out]
      exact ⟨rfl, HB.out⟩
end Go.Proofs.YtagjmkgbfbaekaaDoor
