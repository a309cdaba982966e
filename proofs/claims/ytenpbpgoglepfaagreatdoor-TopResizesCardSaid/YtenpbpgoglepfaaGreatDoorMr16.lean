/- Entries: TopResizes, run by the kernel (printed by ev/py). No condition. -/
import Derived.Test.YtenpbpgoglepfaaGreatDoorMr14
import Derived.Test.YtenpbpgoglepfaaGreatDoorMr15
namespace Go.Proofs.YtenpbpgoglepfaaGreatDoor
open Go.RowKit
set_option linter.unusedVariables false
set_option maxRecDepth 100000
theorem ro7 : EntOk 81 re7 := entry_of (rows := []) (k := 60) (fun E B0 _ => rows_nil) (by decide) (by kernel_rfl)
theorem ro8 : EntOk 47 re8 := entry_of (rows := [(81, .es [re7])]) (k := 60) (fun E B0 _ => (rows_cons (ents_cons ro7 ents_nil) rows_nil)) (by decide) (by kernel_rfl)
end Go.Proofs.YtenpbpgoglepfaaGreatDoor
