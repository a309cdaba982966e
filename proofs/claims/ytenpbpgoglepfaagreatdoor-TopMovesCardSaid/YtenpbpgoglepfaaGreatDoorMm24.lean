/- TopMoves: cases (printed by ev/py). No condition. -/
import Derived.Test.YtenpbpgoglepfaaGreatDoorMm12
namespace Go.Proofs.YtenpbpgoglepfaaGreatDoor
open Go.RowKit
set_option linter.unusedVariables false
set_option maxRecDepth 100000
theorem mc_ff_0_0 : mc_ff 0 0 = true := by kernel_rfl
theorem mc_ff_0_1 : mc_ff 0 1 = true := by kernel_rfl
theorem mc_ff_0_2 : mc_ff 0 2 = true := by kernel_rfl
theorem mc_ff_0_3 : mc_ff 0 3 = true := by kernel_rfl
theorem mc_ff_0_4 : mc_ff 0 4 = true := by kernel_rfl
theorem mc_ff_0_5 : mc_ff 0 5 = true := by kernel_rfl
theorem mc_ff_0_6 : mc_ff 0 6 = true := by kernel_rfl
theorem mc_ff_0_7 : mc_ff 0 7 = true := by kernel_rfl
theorem mc_ff_1_0 : mc_ff 1 0 = true := by kernel_rfl
theorem mc_ff_1_1 : mc_ff 1 1 = true := by kernel_rfl
theorem mc_ff_1_2 : mc_ff 1 2 = true := by kernel_rfl
theorem mc_ff_1_3 : mc_ff 1 3 = true := by kernel_rfl
theorem mc_ff_1_4 : mc_ff 1 4 = true := by kernel_rfl
theorem mc_ff_1_5 : mc_ff 1 5 = true := by kernel_rfl
theorem mc_ff_1_6 : mc_ff 1 6 = true := by kernel_rfl
theorem mc_ff_1_7 : mc_ff 1 7 = true := by kernel_rfl
theorem mc_ff_2_0 : mc_ff 2 0 = true := by kernel_rfl
theorem mc_ff_2_1 : mc_ff 2 1 = true := by kernel_rfl
theorem mc_ff_2_2 : mc_ff 2 2 = true := by kernel_rfl
theorem mc_ff_2_3 : mc_ff 2 3 = true := by kernel_rfl
theorem mc_ff_2_4 : mc_ff 2 4 = true := by kernel_rfl
theorem mc_ff_2_5 : mc_ff 2 5 = true := by kernel_rfl
theorem mc_ff_2_6 : mc_ff 2 6 = true := by kernel_rfl
theorem mc_ff_2_7 : mc_ff 2 7 = true := by kernel_rfl
theorem mc_ff_3_0 : mc_ff 3 0 = true := by kernel_rfl
theorem mc_ff_3_1 : mc_ff 3 1 = true := by kernel_rfl
theorem mc_ff_3_2 : mc_ff 3 2 = true := by kernel_rfl
theorem mc_ff_3_3 : mc_ff 3 3 = true := by kernel_rfl
theorem mc_ff_3_4 : mc_ff 3 4 = true := by kernel_rfl
theorem mc_ff_3_5 : mc_ff 3 5 = true := by kernel_rfl
theorem mc_ff_3_6 : mc_ff 3 6 = true := by kernel_rfl
theorem mc_ff_3_7 : mc_ff 3 7 = true := by kernel_rfl
end Go.Proofs.YtenpbpgoglepfaaGreatDoor
