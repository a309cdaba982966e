/- Entries: TopMoves, run by the kernel (printed by ev/py). No condition. -/
import Derived.Test.YtenpbpgoglepfaaGreatDoorMm12
import Derived.Test.YtenpbpgoglepfaaGreatDoorMm13
import Derived.Test.YtenpbpgoglepfaaGreatDoorMm11
import Derived.Test.YtenpbpgoglepfaaGreatDoorMm14
namespace Go.Proofs.YtenpbpgoglepfaaGreatDoor
open Go.RowKit
set_option linter.unusedVariables false
set_option maxRecDepth 100000
theorem mo78 : EntOk 80 me78 := entry_of (rows := []) (k := 60) (fun E B0 _ => rows_nil) (by decide) (by kernel_rfl)
theorem mo79 : EntOk 145 me79 := entry_many (rows := []) (k := 60) Tryz.func145 ckHeld (fun E B0 _ => rows_nil) (by kernel_rfl)
theorem mo80 : EntOk 81 me80 := entry_of (rows := [(145, .es [me79])]) (k := 60) (fun E B0 _ => (rows_cons (ents_cons mo79 ents_nil) rows_nil)) (by decide) (by kernel_rfl)
theorem mo81 : EntOk 145 me81 := entry_many (rows := []) (k := 60) Tryz.func145 ckHeld (fun E B0 _ => rows_nil) (by kernel_rfl)
theorem mo82 : EntOk 81 me82 := entry_of (rows := [(145, .es [me81])]) (k := 60) (fun E B0 _ => (rows_cons (ents_cons mo81 ents_nil) rows_nil)) (by decide) (by kernel_rfl)
theorem mo83 : EntOk 137 me83 := entry_join [0, 1] (rows := []) (k := 60) (fun E B0 _ => rows_nil) (by decide) (by kernel_rfl) (by kernel_rfl)
end Go.Proofs.YtenpbpgoglepfaaGreatDoor
