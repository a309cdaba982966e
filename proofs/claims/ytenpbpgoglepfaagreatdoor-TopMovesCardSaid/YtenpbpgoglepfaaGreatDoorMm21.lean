/- Entries: TopMoves, the drawing of the subsurface (printed by ev/py). No condition. -/
import Derived.Test.YtenpbpgoglepfaaGreatDoorMm12
import Derived.Test.YtenpbpgoglepfaaGreatDoorMm11
namespace Go.Proofs.YtenpbpgoglepfaaGreatDoor
open Go.RowKit
set_option linter.unusedVariables false
set_option maxRecDepth 100000
theorem mx_4_0 : EntOk 131 (mxE 4 0) := entry_lo (rows := [(196, .one (.pr prHas))]) (k := 60) (fun E B0 _ => (rows_cons prHas_ok rows_nil)) (by decide) (by kernel_rfl)
theorem mx_4_1 : EntOk 131 (mxE 4 1) := entry_lo (rows := [(196, .one (.pr prHas))]) (k := 60) (fun E B0 _ => (rows_cons prHas_ok rows_nil)) (by decide) (by kernel_rfl)
theorem mx_4_2 : EntOk 131 (mxE 4 2) := entry_lo (rows := [(196, .one (.pr prHas))]) (k := 60) (fun E B0 _ => (rows_cons prHas_ok rows_nil)) (by decide) (by kernel_rfl)
theorem mx_4_3 : EntOk 131 (mxE 4 3) := entry_lo (rows := [(196, .one (.pr prHas))]) (k := 60) (fun E B0 _ => (rows_cons prHas_ok rows_nil)) (by decide) (by kernel_rfl)
theorem mx_4_4 : EntOk 131 (mxE 4 4) := entry_lo (rows := [(196, .one (.pr prHas))]) (k := 60) (fun E B0 _ => (rows_cons prHas_ok rows_nil)) (by decide) (by kernel_rfl)
theorem mx_4_5 : EntOk 131 (mxE 4 5) := entry_lo (rows := [(196, .one (.pr prHas))]) (k := 60) (fun E B0 _ => (rows_cons prHas_ok rows_nil)) (by decide) (by kernel_rfl)
theorem mx_4_6 : EntOk 131 (mxE 4 6) := entry_lo (rows := [(196, .one (.pr prHas))]) (k := 60) (fun E B0 _ => (rows_cons prHas_ok rows_nil)) (by decide) (by kernel_rfl)
theorem mx_4_7 : EntOk 131 (mxE 4 7) := entry_lo (rows := [(196, .one (.pr prHas))]) (k := 60) (fun E B0 _ => (rows_cons prHas_ok rows_nil)) (by decide) (by kernel_rfl)
theorem mx_5_0 : EntOk 131 (mxE 5 0) := entry_lo (rows := [(196, .one (.pr prHas))]) (k := 60) (fun E B0 _ => (rows_cons prHas_ok rows_nil)) (by decide) (by kernel_rfl)
theorem mx_5_1 : EntOk 131 (mxE 5 1) := entry_lo (rows := [(196, .one (.pr prHas))]) (k := 60) (fun E B0 _ => (rows_cons prHas_ok rows_nil)) (by decide) (by kernel_rfl)
theorem mx_5_2 : EntOk 131 (mxE 5 2) := entry_lo (rows := [(196, .one (.pr prHas))]) (k := 60) (fun E B0 _ => (rows_cons prHas_ok rows_nil)) (by decide) (by kernel_rfl)
theorem mx_5_3 : EntOk 131 (mxE 5 3) := entry_lo (rows := [(196, .one (.pr prHas))]) (k := 60) (fun E B0 _ => (rows_cons prHas_ok rows_nil)) (by decide) (by kernel_rfl)
theorem mx_5_4 : EntOk 131 (mxE 5 4) := entry_lo (rows := [(196, .one (.pr prHas))]) (k := 60) (fun E B0 _ => (rows_cons prHas_ok rows_nil)) (by decide) (by kernel_rfl)
theorem mx_5_5 : EntOk 131 (mxE 5 5) := entry_lo (rows := [(196, .one (.pr prHas))]) (k := 60) (fun E B0 _ => (rows_cons prHas_ok rows_nil)) (by decide) (by kernel_rfl)
theorem mx_5_6 : EntOk 131 (mxE 5 6) := entry_lo (rows := [(196, .one (.pr prHas))]) (k := 60) (fun E B0 _ => (rows_cons prHas_ok rows_nil)) (by decide) (by kernel_rfl)
theorem mx_5_7 : EntOk 131 (mxE 5 7) := entry_lo (rows := [(196, .one (.pr prHas))]) (k := 60) (fun E B0 _ => (rows_cons prHas_ok rows_nil)) (by decide) (by kernel_rfl)
end Go.Proofs.YtenpbpgoglepfaaGreatDoor
