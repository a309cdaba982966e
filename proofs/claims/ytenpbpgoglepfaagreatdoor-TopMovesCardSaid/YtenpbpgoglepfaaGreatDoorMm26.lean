/- TopMoves: cases (printed by ev/py). No condition. -/
import Derived.Test.YtenpbpgoglepfaaGreatDoorMm12
namespace Go.Proofs.YtenpbpgoglepfaaGreatDoor
open Go.RowKit
set_option linter.unusedVariables false
set_option maxRecDepth 100000
theorem mc_ft_0_0 : mc_ft 0 0 = true := by kernel_rfl
theorem mc_ft_0_1 : mc_ft 0 1 = true := by kernel_rfl
theorem mc_ft_0_2 : mc_ft 0 2 = true := by kernel_rfl
theorem mc_ft_0_3 : mc_ft 0 3 = true := by kernel_rfl
theorem mc_ft_0_4 : mc_ft 0 4 = true := by kernel_rfl
theorem mc_ft_0_5 : mc_ft 0 5 = true := by kernel_rfl
theorem mc_ft_0_6 : mc_ft 0 6 = true := by kernel_rfl
theorem mc_ft_0_7 : mc_ft 0 7 = true := by kernel_rfl
theorem mc_ft_1_0 : mc_ft 1 0 = true := by kernel_rfl
theorem mc_ft_1_1 : mc_ft 1 1 = true := by kernel_rfl
theorem mc_ft_1_2 : mc_ft 1 2 = true := by kernel_rfl
theorem mc_ft_1_3 : mc_ft 1 3 = true := by kernel_rfl
theorem mc_ft_1_4 : mc_ft 1 4 = true := by kernel_rfl
theorem mc_ft_1_5 : mc_ft 1 5 = true := by kernel_rfl
theorem mc_ft_1_6 : mc_ft 1 6 = true := by kernel_rfl
theorem mc_ft_1_7 : mc_ft 1 7 = true := by kernel_rfl
theorem mc_ft_2_0 : mc_ft 2 0 = true := by kernel_rfl
theorem mc_ft_2_1 : mc_ft 2 1 = true := by kernel_rfl
theorem mc_ft_2_2 : mc_ft 2 2 = true := by kernel_rfl
theorem mc_ft_2_3 : mc_ft 2 3 = true := by kernel_rfl
theorem mc_ft_2_4 : mc_ft 2 4 = true := by kernel_rfl
theorem mc_ft_2_5 : mc_ft 2 5 = true := by kernel_rfl
theorem mc_ft_2_6 : mc_ft 2 6 = true := by kernel_rfl
theorem mc_ft_2_7 : mc_ft 2 7 = true := by kernel_rfl
theorem mc_ft_3_0 : mc_ft 3 0 = true := by kernel_rfl
theorem mc_ft_3_1 : mc_ft 3 1 = true := by kernel_rfl
theorem mc_ft_3_2 : mc_ft 3 2 = true := by kernel_rfl
theorem mc_ft_3_3 : mc_ft 3 3 = true := by kernel_rfl
theorem mc_ft_3_4 : mc_ft 3 4 = true := by kernel_rfl
theorem mc_ft_3_5 : mc_ft 3 5 = true := by kernel_rfl
theorem mc_ft_3_6 : mc_ft 3 6 = true := by kernel_rfl
theorem mc_ft_3_7 : mc_ft 3 7 = true := by kernel_rfl
end Go.Proofs.YtenpbpgoglepfaaGreatDoor
