/- TopMoves: cases (printed by ev/py). No condition. -/
import Derived.Test.YtenpbpgoglepfaaGreatDoorMm12
namespace Go.Proofs.YtenpbpgoglepfaaGreatDoor
open Go.RowKit
set_option linter.unusedVariables false
set_option maxRecDepth 100000
theorem mc_tt_4_0 : mc_tt 4 0 = true := by kernel_rfl
theorem mc_tt_4_1 : mc_tt 4 1 = true := by kernel_rfl
theorem mc_tt_4_2 : mc_tt 4 2 = true := by kernel_rfl
theorem mc_tt_4_3 : mc_tt 4 3 = true := by kernel_rfl
theorem mc_tt_4_4 : mc_tt 4 4 = true := by kernel_rfl
theorem mc_tt_4_5 : mc_tt 4 5 = true := by kernel_rfl
theorem mc_tt_4_6 : mc_tt 4 6 = true := by kernel_rfl
theorem mc_tt_4_7 : mc_tt 4 7 = true := by kernel_rfl
theorem mc_tt_5_0 : mc_tt 5 0 = true := by kernel_rfl
theorem mc_tt_5_1 : mc_tt 5 1 = true := by kernel_rfl
theorem mc_tt_5_2 : mc_tt 5 2 = true := by kernel_rfl
theorem mc_tt_5_3 : mc_tt 5 3 = true := by kernel_rfl
theorem mc_tt_5_4 : mc_tt 5 4 = true := by kernel_rfl
theorem mc_tt_5_5 : mc_tt 5 5 = true := by kernel_rfl
theorem mc_tt_5_6 : mc_tt 5 6 = true := by kernel_rfl
theorem mc_tt_5_7 : mc_tt 5 7 = true := by kernel_rfl
theorem mc_tt_6_0 : mc_tt 6 0 = true := by kernel_rfl
theorem mc_tt_6_1 : mc_tt 6 1 = true := by kernel_rfl
theorem mc_tt_6_2 : mc_tt 6 2 = true := by kernel_rfl
theorem mc_tt_6_3 : mc_tt 6 3 = true := by kernel_rfl
theorem mc_tt_6_4 : mc_tt 6 4 = true := by kernel_rfl
theorem mc_tt_6_5 : mc_tt 6 5 = true := by kernel_rfl
theorem mc_tt_6_6 : mc_tt 6 6 = true := by kernel_rfl
theorem mc_tt_6_7 : mc_tt 6 7 = true := by kernel_rfl
theorem mc_tt_7_0 : mc_tt 7 0 = true := by kernel_rfl
theorem mc_tt_7_1 : mc_tt 7 1 = true := by kernel_rfl
theorem mc_tt_7_2 : mc_tt 7 2 = true := by kernel_rfl
theorem mc_tt_7_3 : mc_tt 7 3 = true := by kernel_rfl
theorem mc_tt_7_4 : mc_tt 7 4 = true := by kernel_rfl
theorem mc_tt_7_5 : mc_tt 7 5 = true := by kernel_rfl
theorem mc_tt_7_6 : mc_tt 7 6 = true := by kernel_rfl
theorem mc_tt_7_7 : mc_tt 7 7 = true := by kernel_rfl
end Go.Proofs.YtenpbpgoglepfaaGreatDoor
