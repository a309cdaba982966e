/- Entries: TopMoves, run by the kernel (printed by ev/py). No condition. -/
import Derived.Test.YtenpbpgoglepfaaGreatDoorMm12
import Derived.Test.YtenpbpgoglepfaaGreatDoorMm13
import Derived.Test.YtenpbpgoglepfaaGreatDoorMm11
import Derived.Test.YtenpbpgoglepfaaGreatDoorMm14
import Derived.Test.YtenpbpgoglepfaaGreatDoorMm15
import Derived.Test.YtenpbpgoglepfaaGreatDoorMm16
import Derived.Test.YtenpbpgoglepfaaGreatDoorMm17
namespace Go.Proofs.YtenpbpgoglepfaaGreatDoor
open Go.RowKit
set_option linter.unusedVariables false
set_option maxRecDepth 100000
theorem mo84 : EntOk 145 me84 := entry_many (rows := []) (k := 60) Tryz.func145 ckHeld (fun E B0 _ => rows_nil) (by kernel_rfl)
theorem mo85 : EntOk 81 me85 := entry_of (rows := [(329, .es [me42, me43]), (137, .es [me83]), (145, .es [me84])]) (k := 60) (fun E B0 _ => (rows_cons (ents_cons mo42 (ents_cons mo43 ents_nil)) (rows_cons (ents_cons mo83 ents_nil) (rows_cons (ents_cons mo84 ents_nil) rows_nil)))) (by decide) (by kernel_rfl)
theorem mo86 : EntOk 137 me86 := entry_of (rows := []) (k := 60) (fun E B0 _ => rows_nil) (by decide) (by kernel_rfl)
theorem mo87 : EntOk 145 me87 := entry_many (rows := []) (k := 60) Tryz.func145 ckHeld (fun E B0 _ => rows_nil) (by kernel_rfl)
theorem mo88 : EntOk 81 me88 := entry_of (rows := [(137, .es [me86]), (145, .es [me87])]) (k := 60) (fun E B0 _ => (rows_cons (ents_cons mo86 ents_nil) (rows_cons (ents_cons mo87 ents_nil) rows_nil))) (by decide) (by kernel_rfl)
theorem mo89 : EntOk 145 me89 := entry_many (rows := []) (k := 60) Tryz.func145 ckHeld (fun E B0 _ => rows_nil) (by kernel_rfl)
theorem mo90 : EntOk 81 me90 := entry_of (rows := [(145, .es [me89])]) (k := 60) (fun E B0 _ => (rows_cons (ents_cons mo89 ents_nil) rows_nil)) (by decide) (by kernel_rfl)
theorem mo91 : EntOk 145 me91 := entry_many (rows := []) (k := 60) Tryz.func145 ckHeld (fun E B0 _ => rows_nil) (by kernel_rfl)
theorem mo92 : EntOk 144 me92 := entry_many (rows := []) (k := 60) Tryz.func144 ckNow (fun E B0 _ => rows_nil) (by kernel_rfl)
theorem mo93 : EntOk 81 me93 := entry_of (rows := [(145, .es [me91]), (144, .es [me92])]) (k := 60) (fun E B0 _ => (rows_cons (ents_cons mo91 ents_nil) (rows_cons (ents_cons mo92 ents_nil) rows_nil))) (by decide) (by kernel_rfl)
theorem mo94 : EntOk 282 me94 := entry_lo (rows := []) (k := 60) (fun E B0 _ => rows_nil) (by decide) (by kernel_rfl)
theorem mo95 : EntOk 341 me95 := entry_of (rows := []) (k := 60) (fun E B0 _ => rows_nil) (by decide) (by kernel_rfl)
theorem mo96 : EntOk 141 me96 := entry_of (rows := [(282, .es [me94]), (341, .es [me95])]) (k := 60) (fun E B0 _ => (rows_cons (ents_cons mo94 ents_nil) (rows_cons (ents_cons mo95 ents_nil) rows_nil))) (by decide) (by kernel_rfl)
theorem mo97 : EntOk 145 me97 := entry_many (rows := []) (k := 60) Tryz.func145 ckHeld (fun E B0 _ => rows_nil) (by kernel_rfl)
theorem mo98 : EntOk 144 me98 := entry_many (rows := []) (k := 60) Tryz.func144 ckNow (fun E B0 _ => rows_nil) (by kernel_rfl)
theorem mo99 : EntOk 145 me99 := entry_many (rows := []) (k := 60) Tryz.func145 ckHeld (fun E B0 _ => rows_nil) (by kernel_rfl)
theorem mo100 : EntOk 144 me100 := entry_many (rows := []) (k := 60) Tryz.func144 ckNow (fun E B0 _ => rows_nil) (by kernel_rfl)
theorem mo101 : EntOk 137 me101 := entry_join [2, 3] (rows := []) (k := 60) (fun E B0 _ => rows_nil) (by decide) (by kernel_rfl) (by kernel_rfl)
theorem mo102 : EntOk 145 me102 := entry_many (rows := []) (k := 60) Tryz.func145 ckHeld (fun E B0 _ => rows_nil) (by kernel_rfl)
theorem mo103 : EntOk 144 me103 := entry_many (rows := []) (k := 60) Tryz.func144 ckNow (fun E B0 _ => rows_nil) (by kernel_rfl)
theorem mo104 : EntOk 81 me104 := entry_of (rows := [(329, .es [me62, me63]), (137, .es [me101]), (145, .es [me102]), (144, .es [me103])]) (k := 60) (fun E B0 _ => (rows_cons (ents_cons mo62 (ents_cons mo63 ents_nil)) (rows_cons (ents_cons mo101 ents_nil) (rows_cons (ents_cons mo102 ents_nil) (rows_cons (ents_cons mo103 ents_nil) rows_nil))))) (by decide) (by kernel_rfl)
theorem mo105 : EntOk 320 me105 := entry_of (rows := []) (k := 60) (fun E B0 _ => rows_nil) (by decide) (by kernel_rfl)
theorem mo106 : EntOk 145 me106 := entry_many (rows := []) (k := 60) Tryz.func145 ckHeld (fun E B0 _ => rows_nil) (by kernel_rfl)
theorem mo107 : EntOk 144 me107 := entry_many (rows := []) (k := 60) Tryz.func144 ckNow (fun E B0 _ => rows_nil) (by kernel_rfl)
theorem mo108 : EntOk 282 me108 := entry_lo (rows := []) (k := 60) (fun E B0 _ => rows_nil) (by decide) (by kernel_rfl)
theorem mo109 : EntOk 320 me109 := entry_of (rows := []) (k := 60) (fun E B0 _ => rows_nil) (by decide) (by kernel_rfl)
theorem mo110 : EntOk 145 me110 := entry_many (rows := []) (k := 60) Tryz.func145 ckHeld (fun E B0 _ => rows_nil) (by kernel_rfl)
theorem mo111 : EntOk 144 me111 := entry_many (rows := []) (k := 60) Tryz.func144 ckNow (fun E B0 _ => rows_nil) (by kernel_rfl)
theorem mo112 : EntOk 81 me112 := entry_of (rows := [(282, .es [me108]), (320, .es [me109]), (145, .es [me110]), (144, .es [me111])]) (k := 60) (fun E B0 _ => (rows_cons (ents_cons mo108 ents_nil) (rows_cons (ents_cons mo109 ents_nil) (rows_cons (ents_cons mo110 ents_nil) (rows_cons (ents_cons mo111 ents_nil) rows_nil))))) (by decide) (by kernel_rfl)
theorem mo113 : EntOk 47 me113 := entry_of (rows := [(80, .es [me78]), (81, .es [me80, me82, me85, me88, me90, me93, me104, me112]), (141, .es [me96]), (145, .es [me97, me99, me106]), (144, .es [me98, me100, me107]), (320, .es [me105])]) (k := 60) (fun E B0 _ => (rows_cons (ents_cons mo78 ents_nil) (rows_cons (ents_cons mo80 (ents_cons mo82 (ents_cons mo85 (ents_cons mo88 (ents_cons mo90 (ents_cons mo93 (ents_cons mo104 (ents_cons mo112 ents_nil)))))))) (rows_cons (ents_cons mo96 ents_nil) (rows_cons (ents_cons mo97 (ents_cons mo99 (ents_cons mo106 ents_nil))) (rows_cons (ents_cons mo98 (ents_cons mo100 (ents_cons mo107 ents_nil))) (rows_cons (ents_cons mo105 ents_nil) rows_nil))))))) (by decide) (by kernel_rfl)
theorem mo117 : EntOk 80 me117 := entry_of (rows := []) (k := 60) (fun E B0 _ => rows_nil) (by decide) (by kernel_rfl)
theorem mo118 : EntOk 145 me118 := entry_many (rows := []) (k := 60) Tryz.func145 ckHeld (fun E B0 _ => rows_nil) (by kernel_rfl)
theorem mo119 : EntOk 145 me119 := entry_many (rows := []) (k := 60) Tryz.func145 ckHeld (fun E B0 _ => rows_nil) (by kernel_rfl)
theorem mo120 : EntOk 81 me120 := entry_of (rows := [(137, .es [me61]), (329, .es [me62, me63]), (144, .es [me65]), (145, .es [me119])]) (k := 60) (fun E B0 _ => (rows_cons (ents_cons mo61 ents_nil) (rows_cons (ents_cons mo62 (ents_cons mo63 ents_nil)) (rows_cons (ents_cons mo65 ents_nil) (rows_cons (ents_cons mo119 ents_nil) rows_nil))))) (by decide) (by kernel_rfl)
theorem mo121 : EntOk 145 me121 := entry_many (rows := []) (k := 60) Tryz.func145 ckHeld (fun E B0 _ => rows_nil) (by kernel_rfl)
theorem mo122 : EntOk 144 me122 := entry_many (rows := []) (k := 60) Tryz.func144 ckNow (fun E B0 _ => rows_nil) (by kernel_rfl)
theorem mo123 : EntOk 81 me123 := entry_of (rows := [(145, .es [me121]), (144, .es [me122])]) (k := 60) (fun E B0 _ => (rows_cons (ents_cons mo121 ents_nil) (rows_cons (ents_cons mo122 ents_nil) rows_nil))) (by decide) (by kernel_rfl)
theorem mo124 : EntOk 47 me124 := EntOk.pad (n1 := 5598) (entry_of (rows := [(81, .es [me38, me40, me45, me48, me50, me53, me120, me123]), (141, .es [me56]), (145, .es [me57, me118]), (144, .es [me58, me60]), (80, .es [me117])]) (k := 60) (fun E B0 _ => (rows_cons (ents_cons mo38 (ents_cons mo40 (ents_cons mo45 (ents_cons mo48 (ents_cons mo50 (ents_cons mo53 (ents_cons mo120 (ents_cons mo123 ents_nil)))))))) (rows_cons (ents_cons mo56 ents_nil) (rows_cons (ents_cons mo57 (ents_cons mo118 ents_nil)) (rows_cons (ents_cons mo58 (ents_cons mo60 ents_nil)) (rows_cons (ents_cons mo117 ents_nil) rows_nil)))))) (by decide) (by kernel_rfl)) (by decide)
theorem mo128 : EntOk 80 me128 := entry_of (rows := []) (k := 60) (fun E B0 _ => rows_nil) (by decide) (by kernel_rfl)
theorem mo129 : EntOk 145 me129 := entry_many (rows := []) (k := 60) Tryz.func145 ckHeld (fun E B0 _ => rows_nil) (by kernel_rfl)
theorem mo130 : EntOk 145 me130 := entry_many (rows := []) (k := 60) Tryz.func145 ckHeld (fun E B0 _ => rows_nil) (by kernel_rfl)
theorem mo131 : EntOk 81 me131 := entry_of (rows := [(329, .es [me62, me63]), (137, .es [me101]), (144, .es [me103]), (145, .es [me130])]) (k := 60) (fun E B0 _ => (rows_cons (ents_cons mo62 (ents_cons mo63 ents_nil)) (rows_cons (ents_cons mo101 ents_nil) (rows_cons (ents_cons mo103 ents_nil) (rows_cons (ents_cons mo130 ents_nil) rows_nil))))) (by decide) (by kernel_rfl)
theorem mo132 : EntOk 145 me132 := entry_many (rows := []) (k := 60) Tryz.func145 ckHeld (fun E B0 _ => rows_nil) (by kernel_rfl)
theorem mo133 : EntOk 144 me133 := entry_many (rows := []) (k := 60) Tryz.func144 ckNow (fun E B0 _ => rows_nil) (by kernel_rfl)
theorem mo134 : EntOk 81 me134 := entry_of (rows := [(145, .es [me132]), (144, .es [me133])]) (k := 60) (fun E B0 _ => (rows_cons (ents_cons mo132 ents_nil) (rows_cons (ents_cons mo133 ents_nil) rows_nil))) (by decide) (by kernel_rfl)
theorem mo135 : EntOk 282 me135 := entry_lo (rows := []) (k := 60) (fun E B0 _ => rows_nil) (by decide) (by kernel_rfl)
theorem mo136 : EntOk 341 me136 := entry_of (rows := []) (k := 60) (fun E B0 _ => rows_nil) (by decide) (by kernel_rfl)
theorem mo137 : EntOk 145 me137 := entry_many (rows := []) (k := 60) Tryz.func145 ckHeld (fun E B0 _ => rows_nil) (by kernel_rfl)
theorem mo138 : EntOk 144 me138 := entry_many (rows := []) (k := 60) Tryz.func144 ckNow (fun E B0 _ => rows_nil) (by kernel_rfl)
theorem mo139 : EntOk 81 me139 := entry_of (rows := [(282, .es [me135]), (341, .es [me136]), (145, .es [me137]), (144, .es [me138])]) (k := 60) (fun E B0 _ => (rows_cons (ents_cons mo135 ents_nil) (rows_cons (ents_cons mo136 ents_nil) (rows_cons (ents_cons mo137 ents_nil) (rows_cons (ents_cons mo138 ents_nil) rows_nil))))) (by decide) (by kernel_rfl)
theorem mo140 : EntOk 47 me140 := EntOk.pad (n1 := 5877) (entry_of (rows := [(81, .es [me80, me82, me85, me88, me90, me93, me131, me134, me139]), (141, .es [me96]), (145, .es [me97, me129]), (144, .es [me98, me100]), (80, .es [me128])]) (k := 60) (fun E B0 _ => (rows_cons (ents_cons mo80 (ents_cons mo82 (ents_cons mo85 (ents_cons mo88 (ents_cons mo90 (ents_cons mo93 (ents_cons mo131 (ents_cons mo134 (ents_cons mo139 ents_nil))))))))) (rows_cons (ents_cons mo96 ents_nil) (rows_cons (ents_cons mo97 (ents_cons mo129 ents_nil)) (rows_cons (ents_cons mo98 (ents_cons mo100 ents_nil)) (rows_cons (ents_cons mo128 ents_nil) rows_nil)))))) (by decide) (by kernel_rfl)) (by decide)
end Go.Proofs.YtenpbpgoglepfaaGreatDoor
