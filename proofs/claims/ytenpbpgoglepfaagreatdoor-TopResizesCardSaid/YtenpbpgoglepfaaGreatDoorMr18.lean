/- Entries: TopResizes, run by the kernel (printed by ev/py). No condition. -/
import Derived.Test.YtenpbpgoglepfaaGreatDoorMr14
import Derived.Test.YtenpbpgoglepfaaGreatDoorMr15
import Derived.Test.YtenpbpgoglepfaaGreatDoorMr16
import Derived.Test.YtenpbpgoglepfaaGreatDoorMr17
namespace Go.Proofs.YtenpbpgoglepfaaGreatDoor
open Go.RowKit
set_option linter.unusedVariables false
set_option maxRecDepth 100000
theorem ro10 : EntOk 17 re10 := entry_of (rows := [(47, .es [re8, re9])]) (k := 60) (fun E B0 _ => (rows_cons (ents_cons ro8 (ents_cons ro9 ents_nil)) rows_nil)) (by decide) (by kernel_rfl)
end Go.Proofs.YtenpbpgoglepfaaGreatDoor
