/- TopMoves: cases (printed by ev/py). No condition. -/
import Derived.Test.YtenpbpgoglepfaaGreatDoorMm12
namespace Go.Proofs.YtenpbpgoglepfaaGreatDoor
open Go.RowKit
set_option linter.unusedVariables false
set_option maxRecDepth 100000
theorem mc_tt_0_0 : mc_tt 0 0 = true := by kernel_rfl
theorem mc_tt_0_1 : mc_tt 0 1 = true := by kernel_rfl
theorem mc_tt_0_2 : mc_tt 0 2 = true := by kernel_rfl
theorem mc_tt_0_3 : mc_tt 0 3 = true := by kernel_rfl
theorem mc_tt_0_4 : mc_tt 0 4 = true := by kernel_rfl
theorem mc_tt_0_5 : mc_tt 0 5 = true := by kernel_rfl
theorem mc_tt_0_6 : mc_tt 0 6 = true := by kernel_rfl
theorem mc_tt_0_7 : mc_tt 0 7 = true := by kernel_rfl
theorem mc_tt_1_0 : mc_tt 1 0 = true := by kernel_rfl
theorem mc_tt_1_1 : mc_tt 1 1 = true := by kernel_rfl
theorem mc_tt_1_2 : mc_tt 1 2 = true := by kernel_rfl
theorem mc_tt_1_3 : mc_tt 1 3 = true := by kernel_rfl
theorem mc_tt_1_4 : mc_tt 1 4 = true := by kernel_rfl
theorem mc_tt_1_5 : mc_tt 1 5 = true := by kernel_rfl
theorem mc_tt_1_6 : mc_tt 1 6 = true := by kernel_rfl
theorem mc_tt_1_7 : mc_tt 1 7 = true := by kernel_rfl
theorem mc_tt_2_0 : mc_tt 2 0 = true := by kernel_rfl
theorem mc_tt_2_1 : mc_tt 2 1 = true := by kernel_rfl
theorem mc_tt_2_2 : mc_tt 2 2 = true := by kernel_rfl
theorem mc_tt_2_3 : mc_tt 2 3 = true := by kernel_rfl
theorem mc_tt_2_4 : mc_tt 2 4 = true := by kernel_rfl
theorem mc_tt_2_5 : mc_tt 2 5 = true := by kernel_rfl
theorem mc_tt_2_6 : mc_tt 2 6 = true := by kernel_rfl
theorem mc_tt_2_7 : mc_tt 2 7 = true := by kernel_rfl
theorem mc_tt_3_0 : mc_tt 3 0 = true := by kernel_rfl
theorem mc_tt_3_1 : mc_tt 3 1 = true := by kernel_rfl
theorem mc_tt_3_2 : mc_tt 3 2 = true := by kernel_rfl
theorem mc_tt_3_3 : mc_tt 3 3 = true := by kernel_rfl
theorem mc_tt_3_4 : mc_tt 3 4 = true := by kernel_rfl
theorem mc_tt_3_5 : mc_tt 3 5 = true := by kernel_rfl
theorem mc_tt_3_6 : mc_tt 3 6 = true := by kernel_rfl
theorem mc_tt_3_7 : mc_tt 3 7 = true := by kernel_rfl
end Go.Proofs.YtenpbpgoglepfaaGreatDoor
