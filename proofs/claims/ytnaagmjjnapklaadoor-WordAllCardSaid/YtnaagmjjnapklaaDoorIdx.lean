/- strings.IndexByte: the place of the first such byte, or -1: Go's own text, walked down to the model's entry. No condition. -/
import Derived.Test.YtnaagmjjnapklaaDoorBase
import Derived.Test.YtnaagmjjnapklaaDoorChecked
import Derived.Lib.Bytealg
import Derived.Outline
namespace Go.Proofs.YtnaagmjjnapklaaDoor
open Go.RowKit
set_option maxRecDepth 100000

set_option maxHeartbeats 400000 in
theorem indexByte_any (s : ByteArray) (c : Int) (w : World) :
    Calls Tryd.prog 31 #[.string s, .int .u8 c] w fun e w' => e = .returned (.int .i64 (Lib.indexByte s.data.toList c.toNat.toUInt8)) ∧ w = w' := by
  have hx := fun w => (@run_callFunc_extern Tryd.prog 38 _ Extern.BytealgIndexByte.indexByte Tryd.func38 (by kernel_rfl) (by kernel_rfl) (by kernel_rfl) (by kernel_rfl)) #[.string s, .int .u8 c] w
  simp only [Lib.run_indexByteString, Result.andThen_ok] at hx
  obtain ⟨r, hr⟩ : ∃ r, r = Lib.indexByte s.data.toList c.toNat.toUInt8 := ⟨_, rfl⟩
  rw [← hr] at hx ⊢
  clear hr
  go_enter Tryd.func31, Tryd.ntmps31
  go_wp2
  go_ret
  exact ⟨rfl, rfl⟩
end Go.Proofs.YtnaagmjjnapklaaDoor
