/- Plain laws: what a reader makes of bytes. No condition. -/
import Derived.Test.YtihbgkighckiiaaDoorHead
namespace Go.Proofs.YtihbgkighckiiaaDoor
open Go.RowKit
set_option maxRecDepth 100000

abbrev RawD := Int × Int × ByteArray
def rawCells (l : List RawD) : List Value := l.flatMap fun x => [.int .i64 x.1, .int .i64 x.2.1, .string x.2.2]
theorem rawCells_app (l m : List RawD) : rawCells (l ++ m) = rawCells l ++ rawCells m := by simp [rawCells]
theorem rawCells_length (l : List RawD) : (rawCells l).length = l.length * 3 := by
  induction l with
  | nil => rfl
  | cons x l ih => rw [show x :: l = [x] ++ l from rfl, rawCells_app, List.length_append, ih]; simp [rawCells]; omega
theorem headE_ok {bs : List UInt8} (h : headE bs = 0) : 8 ≤ bs.length ∧ 8 ≤ headN bs ∧ headN bs ≤ 4096 ∧ headN bs % 4 = 0 := by
  have h2 := (head_ok h).2.2
  have hb := leV_bd bs 4
  unfold headE at h
  split at h
  · omega
  · split at h
    · omega
    · split at h
      · omega
      · omega
/-- What comes out of bytes: the messages, what is left, what is wrong. -/
def feedL (bs : List UInt8) : List RawD × List UInt8 × Nat :=
  if headE bs = 2 then ([], bs, 0)
  else if _h0 : headE bs ≠ 0 then ([], [], headE bs)
  else if (bs.length : Int) < headN bs then ([], bs, 0)
  else ((headO bs, headP bs, strB ((bs.take (headN bs).toNat).drop 8)) :: (feedL (bs.drop (headN bs).toNat)).1, (feedL (bs.drop (headN bs).toNat)).2)
  termination_by bs.length
  decreasing_by
    all_goals
      have := headE_ok (bs := bs) (by omega)
      simp only [List.length_drop]
      omega
theorem feedL_short {bs : List UInt8} (h : headE bs = 2) : feedL bs = ([], bs, 0) := by rw [feedL, if_pos h]
theorem feedL_bad {bs : List UInt8} (h : headE bs ≠ 0) (h2 : headE bs ≠ 2) : feedL bs = ([], [], headE bs) := by rw [feedL, if_neg h2, dif_pos h]
theorem feedL_part {bs : List UInt8} (h : headE bs = 0) (h2 : (bs.length : Int) < headN bs) : feedL bs = ([], bs, 0) := by rw [feedL, if_neg (by omega), dif_neg (by omega), if_pos h2]
theorem feedL_msg {bs : List UInt8} (h : headE bs = 0) (n : Nat) (hn : headN bs = n) (h2 : n ≤ bs.length) :
    feedL bs = ((headO bs, headP bs, strB ((bs.take n).drop 8)) :: (feedL (bs.drop n)).1, (feedL (bs.drop n)).2) := by
  rw [feedL, if_neg (by omega), dif_neg (by omega), if_neg (by omega), hn, Int.toNat_natCast]
end Go.Proofs.YtihbgkighckiiaaDoor
