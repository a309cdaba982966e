/- Entries: TopPings, run by the kernel (printed by ev/py). No condition. -/
import Derived.Test.YtenpbpgoglepfaaGreatDoorMa14
import Derived.Test.YtenpbpgoglepfaaGreatDoorMa15
namespace Go.Proofs.YtenpbpgoglepfaaGreatDoor
open Go.RowKit
set_option maxRecDepth 100000
theorem po9 : EntOk 131 pe9 := entry_lo (rows := []) (k := 60) (fun E B0 _ => rows_nil) (by decide) (by kernel_rfl)
theorem po12 : EntOk 131 pe12 := entry_lo (rows := []) (k := 60) (fun E B0 _ => rows_nil) (by decide) (by kernel_rfl)
theorem po15 : EntOk 131 pe15 := entry_lo (rows := []) (k := 60) (fun E B0 _ => rows_nil) (by decide) (by kernel_rfl)
theorem po18 : EntOk 131 pe18 := entry_lo (rows := []) (k := 60) (fun E B0 _ => rows_nil) (by decide) (by kernel_rfl)
theorem po21 : EntOk 131 pe21 := entry_lo (rows := []) (k := 60) (fun E B0 _ => rows_nil) (by decide) (by kernel_rfl)
end Go.Proofs.YtenpbpgoglepfaaGreatDoor
