/- Entries: TopMoves, the drawing of the subsurface (printed by ev/py). No condition. -/
import Derived.Test.YtenpbpgoglepfaaGreatDoorMm12
import Derived.Test.YtenpbpgoglepfaaGreatDoorMm11
namespace Go.Proofs.YtenpbpgoglepfaaGreatDoor
open Go.RowKit
set_option linter.unusedVariables false
set_option maxRecDepth 100000
theorem mx_6_0 : EntOk 131 (mxE 6 0) := entry_lo (rows := [(196, .one (.pr prHas))]) (k := 60) (fun E B0 _ => (rows_cons prHas_ok rows_nil)) (by decide) (by kernel_rfl)
theorem mx_6_1 : EntOk 131 (mxE 6 1) := entry_lo (rows := [(196, .one (.pr prHas))]) (k := 60) (fun E B0 _ => (rows_cons prHas_ok rows_nil)) (by decide) (by kernel_rfl)
theorem mx_6_2 : EntOk 131 (mxE 6 2) := entry_lo (rows := [(196, .one (.pr prHas))]) (k := 60) (fun E B0 _ => (rows_cons prHas_ok rows_nil)) (by decide) (by kernel_rfl)
theorem mx_6_3 : EntOk 131 (mxE 6 3) := entry_lo (rows := [(196, .one (.pr prHas))]) (k := 60) (fun E B0 _ => (rows_cons prHas_ok rows_nil)) (by decide) (by kernel_rfl)
theorem mx_6_4 : EntOk 131 (mxE 6 4) := entry_lo (rows := [(196, .one (.pr prHas))]) (k := 60) (fun E B0 _ => (rows_cons prHas_ok rows_nil)) (by decide) (by kernel_rfl)
theorem mx_6_5 : EntOk 131 (mxE 6 5) := entry_lo (rows := [(196, .one (.pr prHas))]) (k := 60) (fun E B0 _ => (rows_cons prHas_ok rows_nil)) (by decide) (by kernel_rfl)
theorem mx_6_6 : EntOk 131 (mxE 6 6) := entry_lo (rows := [(196, .one (.pr prHas))]) (k := 60) (fun E B0 _ => (rows_cons prHas_ok rows_nil)) (by decide) (by kernel_rfl)
theorem mx_6_7 : EntOk 131 (mxE 6 7) := entry_lo (rows := [(196, .one (.pr prHas))]) (k := 60) (fun E B0 _ => (rows_cons prHas_ok rows_nil)) (by decide) (by kernel_rfl)
theorem mx_7_0 : EntOk 131 (mxE 7 0) := entry_lo (rows := [(196, .one (.pr prHas))]) (k := 60) (fun E B0 _ => (rows_cons prHas_ok rows_nil)) (by decide) (by kernel_rfl)
theorem mx_7_1 : EntOk 131 (mxE 7 1) := entry_lo (rows := [(196, .one (.pr prHas))]) (k := 60) (fun E B0 _ => (rows_cons prHas_ok rows_nil)) (by decide) (by kernel_rfl)
theorem mx_7_2 : EntOk 131 (mxE 7 2) := entry_lo (rows := [(196, .one (.pr prHas))]) (k := 60) (fun E B0 _ => (rows_cons prHas_ok rows_nil)) (by decide) (by kernel_rfl)
theorem mx_7_3 : EntOk 131 (mxE 7 3) := entry_lo (rows := [(196, .one (.pr prHas))]) (k := 60) (fun E B0 _ => (rows_cons prHas_ok rows_nil)) (by decide) (by kernel_rfl)
theorem mx_7_4 : EntOk 131 (mxE 7 4) := entry_lo (rows := [(196, .one (.pr prHas))]) (k := 60) (fun E B0 _ => (rows_cons prHas_ok rows_nil)) (by decide) (by kernel_rfl)
theorem mx_7_5 : EntOk 131 (mxE 7 5) := entry_lo (rows := [(196, .one (.pr prHas))]) (k := 60) (fun E B0 _ => (rows_cons prHas_ok rows_nil)) (by decide) (by kernel_rfl)
theorem mx_7_6 : EntOk 131 (mxE 7 6) := entry_lo (rows := [(196, .one (.pr prHas))]) (k := 60) (fun E B0 _ => (rows_cons prHas_ok rows_nil)) (by decide) (by kernel_rfl)
theorem mx_7_7 : EntOk 131 (mxE 7 7) := entry_lo (rows := [(196, .one (.pr prHas))]) (k := 60) (fun E B0 _ => (rows_cons prHas_ok rows_nil)) (by decide) (by kernel_rfl)
end Go.Proofs.YtenpbpgoglepfaaGreatDoor
