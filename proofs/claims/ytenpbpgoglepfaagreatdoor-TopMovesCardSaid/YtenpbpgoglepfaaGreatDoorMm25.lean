/- TopMoves: cases (printed by ev/py). No condition. -/
import Derived.Test.YtenpbpgoglepfaaGreatDoorMm12
namespace Go.Proofs.YtenpbpgoglepfaaGreatDoor
open Go.RowKit
set_option linter.unusedVariables false
set_option maxRecDepth 100000
theorem mc_ff_4_0 : mc_ff 4 0 = true := by kernel_rfl
theorem mc_ff_4_1 : mc_ff 4 1 = true := by kernel_rfl
theorem mc_ff_4_2 : mc_ff 4 2 = true := by kernel_rfl
theorem mc_ff_4_3 : mc_ff 4 3 = true := by kernel_rfl
theorem mc_ff_4_4 : mc_ff 4 4 = true := by kernel_rfl
theorem mc_ff_4_5 : mc_ff 4 5 = true := by kernel_rfl
theorem mc_ff_4_6 : mc_ff 4 6 = true := by kernel_rfl
theorem mc_ff_4_7 : mc_ff 4 7 = true := by kernel_rfl
theorem mc_ff_5_0 : mc_ff 5 0 = true := by kernel_rfl
theorem mc_ff_5_1 : mc_ff 5 1 = true := by kernel_rfl
theorem mc_ff_5_2 : mc_ff 5 2 = true := by kernel_rfl
theorem mc_ff_5_3 : mc_ff 5 3 = true := by kernel_rfl
theorem mc_ff_5_4 : mc_ff 5 4 = true := by kernel_rfl
theorem mc_ff_5_5 : mc_ff 5 5 = true := by kernel_rfl
theorem mc_ff_5_6 : mc_ff 5 6 = true := by kernel_rfl
theorem mc_ff_5_7 : mc_ff 5 7 = true := by kernel_rfl
theorem mc_ff_6_0 : mc_ff 6 0 = true := by kernel_rfl
theorem mc_ff_6_1 : mc_ff 6 1 = true := by kernel_rfl
theorem mc_ff_6_2 : mc_ff 6 2 = true := by kernel_rfl
theorem mc_ff_6_3 : mc_ff 6 3 = true := by kernel_rfl
theorem mc_ff_6_4 : mc_ff 6 4 = true := by kernel_rfl
theorem mc_ff_6_5 : mc_ff 6 5 = true := by kernel_rfl
theorem mc_ff_6_6 : mc_ff 6 6 = true := by kernel_rfl
theorem mc_ff_6_7 : mc_ff 6 7 = true := by kernel_rfl
theorem mc_ff_7_0 : mc_ff 7 0 = true := by kernel_rfl
theorem mc_ff_7_1 : mc_ff 7 1 = true := by kernel_rfl
theorem mc_ff_7_2 : mc_ff 7 2 = true := by kernel_rfl
theorem mc_ff_7_3 : mc_ff 7 3 = true := by kernel_rfl
theorem mc_ff_7_4 : mc_ff 7 4 = true := by kernel_rfl
theorem mc_ff_7_5 : mc_ff 7 5 = true := by kernel_rfl
theorem mc_ff_7_6 : mc_ff 7 6 = true := by kernel_rfl
theorem mc_ff_7_7 : mc_ff 7 7 = true := by kernel_rfl
end Go.Proofs.YtenpbpgoglepfaaGreatDoor
