/- TopMoves: cases (printed by ev/py). No condition. -/
import Derived.Test.YtenpbpgoglepfaaGreatDoorMm12
namespace Go.Proofs.YtenpbpgoglepfaaGreatDoor
open Go.RowKit
set_option linter.unusedVariables false
set_option maxRecDepth 100000
theorem mc_tf_4_0 : mc_tf 4 0 = true := by kernel_rfl
theorem mc_tf_4_1 : mc_tf 4 1 = true := by kernel_rfl
theorem mc_tf_4_2 : mc_tf 4 2 = true := by kernel_rfl
theorem mc_tf_4_3 : mc_tf 4 3 = true := by kernel_rfl
theorem mc_tf_4_4 : mc_tf 4 4 = true := by kernel_rfl
theorem mc_tf_4_5 : mc_tf 4 5 = true := by kernel_rfl
theorem mc_tf_4_6 : mc_tf 4 6 = true := by kernel_rfl
theorem mc_tf_4_7 : mc_tf 4 7 = true := by kernel_rfl
theorem mc_tf_5_0 : mc_tf 5 0 = true := by kernel_rfl
theorem mc_tf_5_1 : mc_tf 5 1 = true := by kernel_rfl
theorem mc_tf_5_2 : mc_tf 5 2 = true := by kernel_rfl
theorem mc_tf_5_3 : mc_tf 5 3 = true := by kernel_rfl
theorem mc_tf_5_4 : mc_tf 5 4 = true := by kernel_rfl
theorem mc_tf_5_5 : mc_tf 5 5 = true := by kernel_rfl
theorem mc_tf_5_6 : mc_tf 5 6 = true := by kernel_rfl
theorem mc_tf_5_7 : mc_tf 5 7 = true := by kernel_rfl
theorem mc_tf_6_0 : mc_tf 6 0 = true := by kernel_rfl
theorem mc_tf_6_1 : mc_tf 6 1 = true := by kernel_rfl
theorem mc_tf_6_2 : mc_tf 6 2 = true := by kernel_rfl
theorem mc_tf_6_3 : mc_tf 6 3 = true := by kernel_rfl
theorem mc_tf_6_4 : mc_tf 6 4 = true := by kernel_rfl
theorem mc_tf_6_5 : mc_tf 6 5 = true := by kernel_rfl
theorem mc_tf_6_6 : mc_tf 6 6 = true := by kernel_rfl
theorem mc_tf_6_7 : mc_tf 6 7 = true := by kernel_rfl
theorem mc_tf_7_0 : mc_tf 7 0 = true := by kernel_rfl
theorem mc_tf_7_1 : mc_tf 7 1 = true := by kernel_rfl
theorem mc_tf_7_2 : mc_tf 7 2 = true := by kernel_rfl
theorem mc_tf_7_3 : mc_tf 7 3 = true := by kernel_rfl
theorem mc_tf_7_4 : mc_tf 7 4 = true := by kernel_rfl
theorem mc_tf_7_5 : mc_tf 7 5 = true := by kernel_rfl
theorem mc_tf_7_6 : mc_tf 7 6 = true := by kernel_rfl
theorem mc_tf_7_7 : mc_tf 7 7 = true := by kernel_rfl
end Go.Proofs.YtenpbpgoglepfaaGreatDoor
