/- Bytes as numbers: plain lemmas. No condition. -/
import Derived.Test.YtagjmkgbfbaekaaDoorBase
namespace Go.Proofs.YtagjmkgbfbaekaaDoor
open Go.RowKit

def byteAt (bs : List UInt8) (k : Nat) : Int := ((bs[k]?).getD 0).toNat
theorem byteAt_lt (bs : List UInt8) (k : Nat) : 0 ≤ byteAt bs k ∧ byteAt bs k < 256 := by
  have := ((bs[k]?).getD 0).toNat_lt
  unfold byteAt; omega
theorem bv_at (bs : List UInt8) (k : Nat) (h : k < bs.length) : (bv bs)[k]? = some (.int .u8 (byteAt bs k)) := by
  rw [bv_get bs k h, byteAt, List.getElem?_eq_getElem h]; rfl

theorem or_shift (a b i : Nat) (h : a < 2 ^ i) : a ||| b * 2 ^ i = a + b * 2 ^ i := by
  have := Nat.shiftLeft_add_eq_or_of_lt h b
  rw [Nat.shiftLeft_eq] at this
  rw [Nat.or_comm, ← this, Nat.add_comm]
end Go.Proofs.YtagjmkgbfbaekaaDoor
