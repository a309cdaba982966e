/- Numbers one behind the other as bytes. Plain lemmas. No condition. -/
import Derived.Test.YtagjmkgbfbaekaaDoorLe
import Derived.OpenShut
namespace Go.Proofs.YtagjmkgbfbaekaaDoor
open Go.RowKit

/-- A number as four bytes, the least first. -/
def le4 (v : Int) : List UInt8 := [UInt8.ofNat (v % 256).toNat, UInt8.ofNat (v / 256 % 256).toNat, UInt8.ofNat (v / 65536 % 256).toNat, UInt8.ofNat (v / 16777216 % 256).toNat]
theorem le4_length (v : Int) : (le4 v).length = 4 := rfl
theorem byte_val (x : Int) (h0 : 0 ≤ x) (h1 : x < 256) : ((UInt8.ofNat x.toNat).toNat : Int) = x := by
  rw [UInt8.toNat_ofNat']
  omega
theorem bv_le4 (v : Int) (h0 : 0 ≤ v) (h1 : v < 4294967296) : bv (le4 v) = [.int .u8 (v % 256), .int .u8 (v / 256 % 256), .int .u8 (v / 65536 % 256), .int .u8 (v / 16777216)] := by
  simp only [bv, le4, List.map_cons, List.map_nil]
  rw [byte_val _ (by omega) (by omega), byte_val _ (by omega) (by omega), byte_val _ (by omega) (by omega), byte_val _ (by omega) (by omega)]
  rw [show v / 16777216 % 256 = v / 16777216 by omega]
/-- The numbers' bytes. -/
def cat4 (zs : List Int) : List UInt8 := zs.flatMap le4
theorem cat4_length (zs : List Int) : (cat4 zs).length = 4 * zs.length := by
  induction zs with
  | nil => rfl
  | cons z zs ih => simp only [cat4, List.flatMap_cons, List.length_append, le4_length, List.length_cons] at *; omega
theorem cat4_snoc (zs : List Int) (k : Nat) (h : k < zs.length) : cat4 (zs.take (k + 1)) = cat4 (zs.take k) ++ le4 zs[k] := by
  rw [List.take_succ_eq_append_getElem h, cat4, List.flatMap_append]; simp [cat4]
end Go.Proofs.YtagjmkgbfbaekaaDoor
