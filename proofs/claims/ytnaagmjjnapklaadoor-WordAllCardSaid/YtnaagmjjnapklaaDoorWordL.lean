/- The contract of word.PutList. No condition but that slices fit a machine's memory. -/
import Derived.Test.YtnaagmjjnapklaaDoorWord
namespace Go.Proofs.YtnaagmjjnapklaaDoor
open Go.RowKit
set_option maxRecDepth 100000

set_option maxHeartbeats 400000 in
theorem putList_any (v : Value) (bs : List UInt8) (s : ByteArray) (w : World) (h : Sl w w.heap.size v (bv bs)) (hn : bs.length ≤ 140737488388000) (hs : s.size ≤ 65536) :
    Calls Tryd.prog 12 #[v, .string s] w fun e w' => ∃ v', e = .returned v' ∧ w'.ownsRow w.heap.size 5 1 v' (bs.length + (encB s.data.toList).length) (bv (bs ++ encB s.data.toList)) ∧ Below w.heap.size w w' := by
  go_enter Tryd.func12, Tryd.ntmps12
  go_wp2_with fail
  refine (puts_any v bs s w h hn hs).mono ?_
  rintro e w1 ⟨v1, rfl, hown1, hb1⟩
  have HO := Lib.hid hown1
  clear hown1
  go_wp2
  go_ret
  exact ⟨_, rfl, HO.out, hb1⟩

end Go.Proofs.YtnaagmjjnapklaaDoor
