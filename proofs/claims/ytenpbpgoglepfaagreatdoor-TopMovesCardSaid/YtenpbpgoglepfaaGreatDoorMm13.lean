/- Entries: awake, run by the kernel (printed by ev/py). No condition. -/
import Derived.Test.YtenpbpgoglepfaaGreatDoorMm11
namespace Go.Proofs.YtenpbpgoglepfaaGreatDoor
open Go.RowKit
set_option linter.unusedVariables false
set_option maxRecDepth 100000
theorem wo0 : EntOk 131 we0 := entry_lo (rows := [(196, .one (.pr prHas))]) (k := 60) (fun E B0 _ => (rows_cons prHas_ok rows_nil)) (by decide) (by kernel_rfl)
theorem wo1 : EntOk 47 we1 := entry_of (rows := []) (k := 60) (fun E B0 _ => rows_nil) (by decide) (by kernel_rfl)
theorem wo2 : EntOk 7 we2 := entry_of (rows := [(131, .es [we0]), (47, .es [we1])]) (k := 60) (fun E B0 _ => (rows_cons (ents_cons wo0 ents_nil) (rows_cons (ents_cons wo1 ents_nil) rows_nil))) (by decide) (by kernel_rfl)
theorem wo3 : EntOk 47 we3 := entry_of (rows := []) (k := 60) (fun E B0 _ => rows_nil) (by decide) (by kernel_rfl)
theorem wo4 : EntOk 47 we4 := entry_of (rows := []) (k := 60) (fun E B0 _ => rows_nil) (by decide) (by kernel_rfl)
theorem wo5 : EntOk 131 we5 := entry_lo (rows := [(196, .one (.pr prHas))]) (k := 60) (fun E B0 _ => (rows_cons prHas_ok rows_nil)) (by decide) (by kernel_rfl)
theorem wo6 : EntOk 131 we6 := entry_lo (rows := [(196, .one (.pr prHas))]) (k := 60) (fun E B0 _ => (rows_cons prHas_ok rows_nil)) (by decide) (by kernel_rfl)
theorem awake_o : EntOk 16 (.mk .nil 34 st0L [] (.b true) 4669 []) := entry_of (rows := [(7, .es [we2]), (47, .es [we3, we4]), (131, .es [we5, we6]), (196, .one (.pr prHas))]) (k := 60) (fun E B0 _ => (rows_cons (ents_cons wo2 ents_nil) (rows_cons (ents_cons wo3 (ents_cons wo4 ents_nil)) (rows_cons (ents_cons wo5 (ents_cons wo6 ents_nil)) (rows_cons prHas_ok rows_nil))))) (by decide) (by kernel_rfl)
end Go.Proofs.YtenpbpgoglepfaaGreatDoor
