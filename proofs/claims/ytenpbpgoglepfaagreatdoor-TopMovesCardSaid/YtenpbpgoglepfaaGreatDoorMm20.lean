/- Entries: TopMoves, the drawing of the subsurface (printed by ev/py). No condition. -/
import Derived.Test.YtenpbpgoglepfaaGreatDoorMm12
import Derived.Test.YtenpbpgoglepfaaGreatDoorMm11
namespace Go.Proofs.YtenpbpgoglepfaaGreatDoor
open Go.RowKit
set_option linter.unusedVariables false
set_option maxRecDepth 100000
theorem mx_2_0 : EntOk 131 (mxE 2 0) := entry_lo (rows := [(196, .one (.pr prHas))]) (k := 60) (fun E B0 _ => (rows_cons prHas_ok rows_nil)) (by decide) (by kernel_rfl)
theorem mx_2_1 : EntOk 131 (mxE 2 1) := entry_lo (rows := [(196, .one (.pr prHas))]) (k := 60) (fun E B0 _ => (rows_cons prHas_ok rows_nil)) (by decide) (by kernel_rfl)
theorem mx_2_2 : EntOk 131 (mxE 2 2) := entry_lo (rows := [(196, .one (.pr prHas))]) (k := 60) (fun E B0 _ => (rows_cons prHas_ok rows_nil)) (by decide) (by kernel_rfl)
theorem mx_2_3 : EntOk 131 (mxE 2 3) := entry_lo (rows := [(196, .one (.pr prHas))]) (k := 60) (fun E B0 _ => (rows_cons prHas_ok rows_nil)) (by decide) (by kernel_rfl)
theorem mx_2_4 : EntOk 131 (mxE 2 4) := entry_lo (rows := [(196, .one (.pr prHas))]) (k := 60) (fun E B0 _ => (rows_cons prHas_ok rows_nil)) (by decide) (by kernel_rfl)
theorem mx_2_5 : EntOk 131 (mxE 2 5) := entry_lo (rows := [(196, .one (.pr prHas))]) (k := 60) (fun E B0 _ => (rows_cons prHas_ok rows_nil)) (by decide) (by kernel_rfl)
theorem mx_2_6 : EntOk 131 (mxE 2 6) := entry_lo (rows := [(196, .one (.pr prHas))]) (k := 60) (fun E B0 _ => (rows_cons prHas_ok rows_nil)) (by decide) (by kernel_rfl)
theorem mx_2_7 : EntOk 131 (mxE 2 7) := entry_lo (rows := [(196, .one (.pr prHas))]) (k := 60) (fun E B0 _ => (rows_cons prHas_ok rows_nil)) (by decide) (by kernel_rfl)
theorem mx_3_0 : EntOk 131 (mxE 3 0) := entry_lo (rows := [(196, .one (.pr prHas))]) (k := 60) (fun E B0 _ => (rows_cons prHas_ok rows_nil)) (by decide) (by kernel_rfl)
theorem mx_3_1 : EntOk 131 (mxE 3 1) := entry_lo (rows := [(196, .one (.pr prHas))]) (k := 60) (fun E B0 _ => (rows_cons prHas_ok rows_nil)) (by decide) (by kernel_rfl)
theorem mx_3_2 : EntOk 131 (mxE 3 2) := entry_lo (rows := [(196, .one (.pr prHas))]) (k := 60) (fun E B0 _ => (rows_cons prHas_ok rows_nil)) (by decide) (by kernel_rfl)
theorem mx_3_3 : EntOk 131 (mxE 3 3) := entry_lo (rows := [(196, .one (.pr prHas))]) (k := 60) (fun E B0 _ => (rows_cons prHas_ok rows_nil)) (by decide) (by kernel_rfl)
theorem mx_3_4 : EntOk 131 (mxE 3 4) := entry_lo (rows := [(196, .one (.pr prHas))]) (k := 60) (fun E B0 _ => (rows_cons prHas_ok rows_nil)) (by decide) (by kernel_rfl)
theorem mx_3_5 : EntOk 131 (mxE 3 5) := entry_lo (rows := [(196, .one (.pr prHas))]) (k := 60) (fun E B0 _ => (rows_cons prHas_ok rows_nil)) (by decide) (by kernel_rfl)
theorem mx_3_6 : EntOk 131 (mxE 3 6) := entry_lo (rows := [(196, .one (.pr prHas))]) (k := 60) (fun E B0 _ => (rows_cons prHas_ok rows_nil)) (by decide) (by kernel_rfl)
theorem mx_3_7 : EntOk 131 (mxE 3 7) := entry_lo (rows := [(196, .one (.pr prHas))]) (k := 60) (fun E B0 _ => (rows_cons prHas_ok rows_nil)) (by decide) (by kernel_rfl)
end Go.Proofs.YtenpbpgoglepfaaGreatDoor
