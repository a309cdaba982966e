/- Entries: TopPings, run by the kernel (printed by ev/py). No condition. -/
import Derived.Test.YtenpbpgoglepfaaGreatDoorMa14
import Derived.Test.YtenpbpgoglepfaaGreatDoorMa15
namespace Go.Proofs.YtenpbpgoglepfaaGreatDoor
open Go.RowKit
set_option maxRecDepth 100000
theorem po7 : EntOk 47 pe7 := entry_of (rows := []) (k := 60) (fun E B0 _ => rows_nil) (by decide) (by kernel_rfl)
theorem po8 : EntOk 7 pe8 := entry_of (rows := [(131, .es [we0]), (47, .es [we1, pe7])]) (k := 60) (fun E B0 _ => (rows_cons (ents_cons wo0 ents_nil) (rows_cons (ents_cons wo1 (ents_cons po7 ents_nil)) rows_nil))) (by decide) (by kernel_rfl)
theorem po11 : EntOk 131 pe11 := entry_lo (rows := []) (k := 60) (fun E B0 _ => rows_nil) (by decide) (by kernel_rfl)
theorem po14 : EntOk 131 pe14 := entry_lo (rows := []) (k := 60) (fun E B0 _ => rows_nil) (by decide) (by kernel_rfl)
theorem po17 : EntOk 131 pe17 := entry_lo (rows := []) (k := 60) (fun E B0 _ => rows_nil) (by decide) (by kernel_rfl)
theorem po20 : EntOk 131 pe20 := entry_lo (rows := []) (k := 60) (fun E B0 _ => rows_nil) (by decide) (by kernel_rfl)
theorem po23 : EntOk 131 pe23 := entry_lo (rows := []) (k := 60) (fun E B0 _ => rows_nil) (by decide) (by kernel_rfl)
end Go.Proofs.YtenpbpgoglepfaaGreatDoor
