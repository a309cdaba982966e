/- Entries: TopMoves, run by the kernel (printed by ev/py). No condition. -/
import Derived.Test.YtenpbpgoglepfaaGreatDoorMm12
import Derived.Test.YtenpbpgoglepfaaGreatDoorMm13
import Derived.Test.YtenpbpgoglepfaaGreatDoorMm11
import Derived.Test.YtenpbpgoglepfaaGreatDoorMm14
import Derived.Test.YtenpbpgoglepfaaGreatDoorMm15
namespace Go.Proofs.YtenpbpgoglepfaaGreatDoor
open Go.RowKit
set_option linter.unusedVariables false
set_option maxRecDepth 100000
theorem mo60 : EntOk 144 me60 := entry_many (rows := []) (k := 60) Tryz.func144 ckNow (fun E B0 _ => rows_nil) (by kernel_rfl)
theorem mo61 : EntOk 137 me61 := entry_join [2, 3] (rows := []) (k := 60) (fun E B0 _ => rows_nil) (by decide) (by kernel_rfl) (by kernel_rfl)
theorem mo62 : EntOk 329 me62 := entry_joinL [2] (rows := []) (k := 60) (fun E B0 _ => rows_nil) (by decide) (by kernel_rfl) (by kernel_rfl)
theorem mo63 : EntOk 329 me63 := entry_joinL [3] (rows := []) (k := 60) (fun E B0 _ => rows_nil) (by decide) (by kernel_rfl) (by kernel_rfl)
theorem mo64 : EntOk 145 me64 := entry_many (rows := []) (k := 60) Tryz.func145 ckHeld (fun E B0 _ => rows_nil) (by kernel_rfl)
theorem mo65 : EntOk 144 me65 := entry_many (rows := []) (k := 60) Tryz.func144 ckNow (fun E B0 _ => rows_nil) (by kernel_rfl)
theorem mo66 : EntOk 81 me66 := entry_of (rows := [(137, .es [me61]), (329, .es [me62, me63]), (145, .es [me64]), (144, .es [me65])]) (k := 60) (fun E B0 _ => (rows_cons (ents_cons mo61 ents_nil) (rows_cons (ents_cons mo62 (ents_cons mo63 ents_nil)) (rows_cons (ents_cons mo64 ents_nil) (rows_cons (ents_cons mo65 ents_nil) rows_nil))))) (by decide) (by kernel_rfl)
theorem mo67 : EntOk 320 me67 := entry_of (rows := []) (k := 60) (fun E B0 _ => rows_nil) (by decide) (by kernel_rfl)
theorem mo68 : EntOk 145 me68 := entry_many (rows := []) (k := 60) Tryz.func145 ckHeld (fun E B0 _ => rows_nil) (by kernel_rfl)
theorem mo69 : EntOk 144 me69 := entry_many (rows := []) (k := 60) Tryz.func144 ckNow (fun E B0 _ => rows_nil) (by kernel_rfl)
theorem mo70 : EntOk 47 me70 := EntOk.pad (n1 := 5650) (entry_of (rows := [(80, .es [me36]), (81, .es [me38, me40, me45, me48, me50, me53, me66]), (141, .es [me56]), (145, .es [me57, me59, me68]), (144, .es [me58, me60, me69]), (320, .es [me67])]) (k := 60) (fun E B0 _ => (rows_cons (ents_cons mo36 ents_nil) (rows_cons (ents_cons mo38 (ents_cons mo40 (ents_cons mo45 (ents_cons mo48 (ents_cons mo50 (ents_cons mo53 (ents_cons mo66 ents_nil))))))) (rows_cons (ents_cons mo56 ents_nil) (rows_cons (ents_cons mo57 (ents_cons mo59 (ents_cons mo68 ents_nil))) (rows_cons (ents_cons mo58 (ents_cons mo60 (ents_cons mo69 ents_nil))) (rows_cons (ents_cons mo67 ents_nil) rows_nil))))))) (by decide) (by kernel_rfl)) (by decide)
theorem mo72 : EntOk 153 me72 := entry_of (rows := []) (k := 60) (fun E B0 _ => rows_nil) (by decide) (by kernel_rfl)
theorem mo73 : EntOk 131 me73 := entry_lo (rows := [(196, .one (.pr prHas))]) (k := 60) (fun E B0 _ => (rows_cons prHas_ok rows_nil)) (by decide) (by kernel_rfl)
theorem mo74 : EntOk 131 me74 := entry_lo (rows := [(196, .one (.pr prHas))]) (k := 60) (fun E B0 _ => (rows_cons prHas_ok rows_nil)) (by decide) (by kernel_rfl)
end Go.Proofs.YtenpbpgoglepfaaGreatDoor
