/- Entries: TopUnmaps, run by the kernel (printed by ev/py). No condition. -/
import Derived.Test.YtenpbpgoglepfaaGreatDoorMu14
import Derived.Test.YtenpbpgoglepfaaGreatDoorMu15
import Derived.Test.YtenpbpgoglepfaaGreatDoorMu16
namespace Go.Proofs.YtenpbpgoglepfaaGreatDoor
open Go.RowKit
set_option linter.unusedVariables false
set_option maxRecDepth 100000
theorem uo7 : EntOk 47 ue7 := entry_of (rows := []) (k := 60) (fun E B0 _ => rows_nil) (by decide) (by kernel_rfl)
theorem uo8 : EntOk 47 ue8 := entry_of (rows := []) (k := 60) (fun E B0 _ => rows_nil) (by decide) (by kernel_rfl)
theorem uo9 : EntOk 145 ue9 := entry_many (rows := []) (k := 60) Tryz.func145 ckHeld (fun E B0 _ => rows_nil) (by kernel_rfl)
theorem uo10 : EntOk 145 ue10 := entry_many (rows := []) (k := 60) Tryz.func145 ckHeld (fun E B0 _ => rows_nil) (by kernel_rfl)
theorem uo11 : EntOk 145 ue11 := entry_many (rows := []) (k := 60) Tryz.func145 ckHeld (fun E B0 _ => rows_nil) (by kernel_rfl)
theorem uo12 : EntOk 145 ue12 := entry_many (rows := []) (k := 60) Tryz.func145 ckHeld (fun E B0 _ => rows_nil) (by kernel_rfl)
theorem uo13 : EntOk 81 ue13 := entry_of (rows := [(145, .es [ue12])]) (k := 60) (fun E B0 _ => (rows_cons (ents_cons uo12 ents_nil) rows_nil)) (by decide) (by kernel_rfl)
theorem uo14 : EntOk 47 ue14 := entry_of (rows := [(145, .es [ue9, ue10, ue11]), (81, .es [ue13])]) (k := 60) (fun E B0 _ => (rows_cons (ents_cons uo9 (ents_cons uo10 (ents_cons uo11 ents_nil))) (rows_cons (ents_cons uo13 ents_nil) rows_nil))) (by decide) (by kernel_rfl)
theorem uo15 : EntOk 145 ue15 := entry_many (rows := []) (k := 60) Tryz.func145 ckHeld (fun E B0 _ => rows_nil) (by kernel_rfl)
theorem uo16 : EntOk 145 ue16 := entry_many (rows := []) (k := 60) Tryz.func145 ckHeld (fun E B0 _ => rows_nil) (by kernel_rfl)
theorem uo17 : EntOk 145 ue17 := entry_many (rows := []) (k := 60) Tryz.func145 ckHeld (fun E B0 _ => rows_nil) (by kernel_rfl)
theorem uo18 : EntOk 145 ue18 := entry_many (rows := []) (k := 60) Tryz.func145 ckHeld (fun E B0 _ => rows_nil) (by kernel_rfl)
theorem uo19 : EntOk 144 ue19 := entry_many (rows := []) (k := 60) Tryz.func144 ckNow (fun E B0 _ => rows_nil) (by kernel_rfl)
theorem uo20 : EntOk 47 ue20 := entry_of (rows := [(145, .es [ue15, ue16, ue17, ue18]), (144, .es [ue19])]) (k := 60) (fun E B0 _ => (rows_cons (ents_cons uo15 (ents_cons uo16 (ents_cons uo17 (ents_cons uo18 ents_nil)))) (rows_cons (ents_cons uo19 ents_nil) rows_nil))) (by decide) (by kernel_rfl)
theorem uo21 : EntOk 17 ue21 := entry_of (rows := [(47, .es [ue14, ue20])]) (k := 60) (fun E B0 _ => (rows_cons (ents_cons uo14 (ents_cons uo20 ents_nil)) rows_nil)) (by decide) (by kernel_rfl)
theorem uo22 : EntOk 145 ue22 := entry_many (rows := []) (k := 60) Tryz.func145 ckHeld (fun E B0 _ => rows_nil) (by kernel_rfl)
theorem uo23 : EntOk 144 ue23 := entry_many (rows := []) (k := 60) Tryz.func144 ckNow (fun E B0 _ => rows_nil) (by kernel_rfl)
theorem uo24 : EntOk 145 ue24 := entry_many (rows := []) (k := 60) Tryz.func145 ckHeld (fun E B0 _ => rows_nil) (by kernel_rfl)
theorem uo25 : EntOk 47 ue25 := entry_of (rows := [(145, .es [ue22, ue24]), (144, .es [ue23])]) (k := 60) (fun E B0 _ => (rows_cons (ents_cons uo22 (ents_cons uo24 ents_nil)) (rows_cons (ents_cons uo23 ents_nil) rows_nil))) (by decide) (by kernel_rfl)
theorem uo26 : EntOk 145 ue26 := entry_many (rows := []) (k := 60) Tryz.func145 ckHeld (fun E B0 _ => rows_nil) (by kernel_rfl)
theorem uo27 : EntOk 81 ue27 := entry_of (rows := [(145, .es [ue26])]) (k := 60) (fun E B0 _ => (rows_cons (ents_cons uo26 ents_nil) rows_nil)) (by decide) (by kernel_rfl)
theorem uo28 : EntOk 145 ue28 := entry_many (rows := []) (k := 60) Tryz.func145 ckHeld (fun E B0 _ => rows_nil) (by kernel_rfl)
theorem uo29 : EntOk 47 ue29 := entry_of (rows := [(145, .es [ue28]), (147, .one (.pr prAs))]) (k := 60) (fun E B0 _ => (rows_cons (ents_cons uo28 ents_nil) (rows_cons prAs_ok rows_nil))) (by decide) (by kernel_rfl)
theorem uo30 : EntOk 145 ue30 := entry_many (rows := []) (k := 60) Tryz.func145 ckHeld (fun E B0 _ => rows_nil) (by kernel_rfl)
theorem uo31 : EntOk 145 ue31 := entry_many (rows := []) (k := 60) Tryz.func145 ckHeld (fun E B0 _ => rows_nil) (by kernel_rfl)
theorem uo32 : EntOk 145 ue32 := entry_many (rows := []) (k := 60) Tryz.func145 ckHeld (fun E B0 _ => rows_nil) (by kernel_rfl)
theorem uo33 : EntOk 144 ue33 := entry_many (rows := []) (k := 60) Tryz.func144 ckNow (fun E B0 _ => rows_nil) (by kernel_rfl)
theorem uo34 : EntOk 47 ue34 := entry_of (rows := [(145, .es [ue30, ue31, ue32]), (144, .es [ue33])]) (k := 60) (fun E B0 _ => (rows_cons (ents_cons uo30 (ents_cons uo31 (ents_cons uo32 ents_nil))) (rows_cons (ents_cons uo33 ents_nil) rows_nil))) (by decide) (by kernel_rfl)
theorem uo35 : EntOk 145 ue35 := entry_many (rows := []) (k := 60) Tryz.func145 ckHeld (fun E B0 _ => rows_nil) (by kernel_rfl)
theorem uo36 : EntOk 145 ue36 := entry_many (rows := []) (k := 60) Tryz.func145 ckHeld (fun E B0 _ => rows_nil) (by kernel_rfl)
theorem uo37 : EntOk 47 ue37 := entry_of (rows := [(144, .es [ue23]), (145, .es [ue35, ue36])]) (k := 60) (fun E B0 _ => (rows_cons (ents_cons uo23 ents_nil) (rows_cons (ents_cons uo35 (ents_cons uo36 ents_nil)) rows_nil))) (by decide) (by kernel_rfl)
theorem uo38 : EntOk 145 ue38 := entry_many (rows := []) (k := 60) Tryz.func145 ckHeld (fun E B0 _ => rows_nil) (by kernel_rfl)
theorem uo39 : EntOk 81 ue39 := entry_of (rows := [(145, .es [ue38])]) (k := 60) (fun E B0 _ => (rows_cons (ents_cons uo38 ents_nil) rows_nil)) (by decide) (by kernel_rfl)
theorem uo40 : EntOk 145 ue40 := entry_many (rows := []) (k := 60) Tryz.func145 ckHeld (fun E B0 _ => rows_nil) (by kernel_rfl)
theorem uo41 : EntOk 47 ue41 := entry_of (rows := [(145, .es [ue40]), (147, .one (.pr prAs))]) (k := 60) (fun E B0 _ => (rows_cons (ents_cons uo40 ents_nil) (rows_cons prAs_ok rows_nil))) (by decide) (by kernel_rfl)
theorem uo42 : EntOk 145 ue42 := entry_many (rows := []) (k := 60) Tryz.func145 ckHeld (fun E B0 _ => rows_nil) (by kernel_rfl)
theorem uo43 : EntOk 145 ue43 := entry_many (rows := []) (k := 60) Tryz.func145 ckHeld (fun E B0 _ => rows_nil) (by kernel_rfl)
theorem uo44 : EntOk 145 ue44 := entry_many (rows := []) (k := 60) Tryz.func145 ckHeld (fun E B0 _ => rows_nil) (by kernel_rfl)
theorem uo45 : EntOk 144 ue45 := entry_many (rows := []) (k := 60) Tryz.func144 ckNow (fun E B0 _ => rows_nil) (by kernel_rfl)
theorem uo46 : EntOk 47 ue46 := entry_of (rows := [(145, .es [ue42, ue43, ue44]), (144, .es [ue45])]) (k := 60) (fun E B0 _ => (rows_cons (ents_cons uo42 (ents_cons uo43 (ents_cons uo44 ents_nil))) (rows_cons (ents_cons uo45 ents_nil) rows_nil))) (by decide) (by kernel_rfl)
end Go.Proofs.YtenpbpgoglepfaaGreatDoor
