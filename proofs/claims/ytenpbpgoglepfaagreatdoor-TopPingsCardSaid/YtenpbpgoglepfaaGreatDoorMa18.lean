/- Entries: TopPings, run by the kernel (printed by ev/py). No condition. -/
import Derived.Test.YtenpbpgoglepfaaGreatDoorMa14
import Derived.Test.YtenpbpgoglepfaaGreatDoorMa15
namespace Go.Proofs.YtenpbpgoglepfaaGreatDoor
open Go.RowKit
set_option maxRecDepth 100000
theorem po10 : EntOk 131 pe10 := entry_lo (rows := []) (k := 60) (fun E B0 _ => rows_nil) (by decide) (by kernel_rfl)
theorem po13 : EntOk 131 pe13 := entry_lo (rows := []) (k := 60) (fun E B0 _ => rows_nil) (by decide) (by kernel_rfl)
theorem po16 : EntOk 131 pe16 := entry_lo (rows := []) (k := 60) (fun E B0 _ => rows_nil) (by decide) (by kernel_rfl)
theorem po19 : EntOk 131 pe19 := entry_lo (rows := []) (k := 60) (fun E B0 _ => rows_nil) (by decide) (by kernel_rfl)
theorem po22 : EntOk 131 pe22 := entry_lo (rows := []) (k := 60) (fun E B0 _ => rows_nil) (by decide) (by kernel_rfl)
end Go.Proofs.YtenpbpgoglepfaaGreatDoor
