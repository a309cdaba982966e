/- TopMoves: rows (printed by ev/py). No condition. -/
import Derived.Test.YtenpbpgoglepfaaGreatDoorMm12
import Derived.Test.YtenpbpgoglepfaaGreatDoorMm13
import Derived.Test.YtenpbpgoglepfaaGreatDoorMm11
import Derived.Test.YtenpbpgoglepfaaGreatDoorMm15
import Derived.Test.YtenpbpgoglepfaaGreatDoorMm16
import Derived.Test.YtenpbpgoglepfaaGreatDoorMm17
import Derived.Test.YtenpbpgoglepfaaGreatDoorMm18
import Derived.Test.YtenpbpgoglepfaaGreatDoorMm19
import Derived.Test.YtenpbpgoglepfaaGreatDoorMm20
import Derived.Test.YtenpbpgoglepfaaGreatDoorMm21
import Derived.Test.YtenpbpgoglepfaaGreatDoorMm22
namespace Go.Proofs.YtenpbpgoglepfaaGreatDoor
open Go.RowKit
set_option linter.unusedVariables false
set_option maxRecDepth 100000
theorem mx_all (a b : Nat) (ha : a < 8) (hb : b < 8) : EntOk 131 (mxE a b) := by
  have h : a = 0 ∨ a = 1 ∨ a = 2 ∨ a = 3 ∨ a = 4 ∨ a = 5 ∨ a = 6 ∨ a = 7 := by omega
  have k : b = 0 ∨ b = 1 ∨ b = 2 ∨ b = 3 ∨ b = 4 ∨ b = 5 ∨ b = 6 ∨ b = 7 := by omega
  clear ha hb
  rcases h with rfl | rfl | rfl | rfl | rfl | rfl | rfl | rfl <;> rcases k with rfl | rfl | rfl | rfl | rfl | rfl | rfl | rfl
  · exact mx_0_0
  · exact mx_0_1
  · exact mx_0_2
  · exact mx_0_3
  · exact mx_0_4
  · exact mx_0_5
  · exact mx_0_6
  · exact mx_0_7
  · exact mx_1_0
  · exact mx_1_1
  · exact mx_1_2
  · exact mx_1_3
  · exact mx_1_4
  · exact mx_1_5
  · exact mx_1_6
  · exact mx_1_7
  · exact mx_2_0
  · exact mx_2_1
  · exact mx_2_2
  · exact mx_2_3
  · exact mx_2_4
  · exact mx_2_5
  · exact mx_2_6
  · exact mx_2_7
  · exact mx_3_0
  · exact mx_3_1
  · exact mx_3_2
  · exact mx_3_3
  · exact mx_3_4
  · exact mx_3_5
  · exact mx_3_6
  · exact mx_3_7
  · exact mx_4_0
  · exact mx_4_1
  · exact mx_4_2
  · exact mx_4_3
  · exact mx_4_4
  · exact mx_4_5
  · exact mx_4_6
  · exact mx_4_7
  · exact mx_5_0
  · exact mx_5_1
  · exact mx_5_2
  · exact mx_5_3
  · exact mx_5_4
  · exact mx_5_5
  · exact mx_5_6
  · exact mx_5_7
  · exact mx_6_0
  · exact mx_6_1
  · exact mx_6_2
  · exact mx_6_3
  · exact mx_6_4
  · exact mx_6_5
  · exact mx_6_6
  · exact mx_6_7
  · exact mx_7_0
  · exact mx_7_1
  · exact mx_7_2
  · exact mx_7_3
  · exact mx_7_4
  · exact mx_7_5
  · exact mx_7_6
  · exact mx_7_7
theorem md28 : hdE me28 = true := by kernel_rfl
theorem md29 : hdE me29 = true := by kernel_rfl
theorem md30 : hdE me30 = true := by kernel_rfl
theorem md31 : hdE me31 = true := by kernel_rfl
theorem md70 : hdE me70 = true := by kernel_rfl
theorem md32 : hdE me32 = true := by kernel_rfl
theorem md33 : hdE me33 = true := by kernel_rfl
theorem md34 : hdE me34 = true := by kernel_rfl
theorem md35 : hdE me35 = true := by kernel_rfl
theorem md113 : hdE me113 = true := by kernel_rfl
theorem md124 : hdE me124 = true := by kernel_rfl
theorem md140 : hdE me140 = true := by kernel_rfl
theorem mr_ff_ok {x y u v : Int} {a b B0 : Nat} (ha : x4 x y u v 0 % 8 = (a : Int)) (hb : x4 x y u v 1 % 8 = (b : Int)) : RowsOk (env0 (o4 x y u v)) B0 (mr_ff a b) :=
  (rows_cons (prPq_ok (pq_cons (pq_n x y u v (by decide) ha) (pq_cons (pq_n x y u v (by decide) hb) (pq_cons (pq_q x y u v (by decide)) (pq_cons (pq_q x y u v (by decide)) pq_nil))))) (rows_cons (ents_cons wo2 ents_nil) (rows_cons (ents_cons mo7 ents_nil) (rows_cons (ents_cons mo27 ents_nil) (rows_cons (fnOk_esF ⟨rfl, o4_good x y u v⟩ (entsAt_cons (entAt_inst (sg_two x y u v (by decide) (by decide) ha hb) md28 mo28) (entsAt_cons (entAt_inst (sg_two x y u v (by decide) (by decide) ha hb) md29 mo29) (entsAt_cons mo32.at (entsAt_cons mo33.at entsAt_nil))))) (rows_cons (fnOk_esF ⟨rfl, o4_good x y u v⟩ (entsAt_cons (entAt_inst (sg_two x y u v (by decide) (by decide) ha hb) md30 mo30) (entsAt_cons (entAt_inst (sg_two x y u v (by decide) (by decide) ha hb) md31 mo31) (entsAt_cons mo34.at (entsAt_cons mo35.at entsAt_nil))))) (rows_cons (fnOk_esF ⟨rfl, o4_good x y u v⟩ (entsAt_cons (entAt_inst (sg_two x y u v (by decide) (by decide) ha hb) md70 mo70) entsAt_nil)) (rows_cons (ents_cons mo72 ents_nil) (rows_cons (ents_cons mo73 (ents_cons mo74 (ents_cons (mx_all a b (by omega) (by omega)) ents_nil))) (rows_cons ⟨rfl, _, awake_o⟩ (rows_cons prHas_ok rows_nil)))))))))))
theorem mr_ft_ok {x y u v : Int} {a b B0 : Nat} (ha : x4 x y u v 2 % 8 = (a : Int)) (hb : x4 x y u v 3 % 8 = (b : Int)) : RowsOk (env0 (o4 x y u v)) B0 (mr_ft a b) :=
  (rows_cons (prPq_ok (pq_cons (pq_q x y u v (by decide)) (pq_cons (pq_q x y u v (by decide)) (pq_cons (pq_n x y u v (by decide) ha) (pq_cons (pq_n x y u v (by decide) hb) pq_nil))))) (rows_cons (ents_cons wo2 ents_nil) (rows_cons (ents_cons mo7 ents_nil) (rows_cons (ents_cons mo27 ents_nil) (rows_cons (fnOk_esF ⟨rfl, o4_good x y u v⟩ (entsAt_cons mo28.at (entsAt_cons mo29.at (entsAt_cons (entAt_inst (sg_two x y u v (by decide) (by decide) ha hb) md32 mo32) (entsAt_cons (entAt_inst (sg_two x y u v (by decide) (by decide) ha hb) md33 mo33) entsAt_nil))))) (rows_cons (fnOk_esF ⟨rfl, o4_good x y u v⟩ (entsAt_cons mo30.at (entsAt_cons mo31.at (entsAt_cons (entAt_inst (sg_two x y u v (by decide) (by decide) ha hb) md34 mo34) (entsAt_cons (entAt_inst (sg_two x y u v (by decide) (by decide) ha hb) md35 mo35) entsAt_nil))))) (rows_cons (ents_cons mo72 ents_nil) (rows_cons (ents_cons mo73 (ents_cons mo74 (ents_cons (mx_all a b (by omega) (by omega)) ents_nil))) (rows_cons (fnOk_esF ⟨rfl, o4_good x y u v⟩ (entsAt_cons (entAt_inst (sg_two x y u v (by decide) (by decide) ha hb) md113 mo113) entsAt_nil)) (rows_cons ⟨rfl, _, awake_o⟩ (rows_cons prHas_ok rows_nil)))))))))))
theorem mr_tf_ok {x y u v : Int} {a b B0 : Nat} (ha : x4 x y u v 0 % 8 = (a : Int)) (hb : x4 x y u v 1 % 8 = (b : Int)) : RowsOk (env0 (o4 x y u v)) B0 (mr_tf a b) :=
  (rows_cons (prPq_ok (pq_cons (pq_n x y u v (by decide) ha) (pq_cons (pq_n x y u v (by decide) hb) (pq_cons (pq_q x y u v (by decide)) (pq_cons (pq_q x y u v (by decide)) pq_nil))))) (rows_cons (ents_cons wo2 ents_nil) (rows_cons (ents_cons mo7 ents_nil) (rows_cons (ents_cons mo27 ents_nil) (rows_cons (fnOk_esF ⟨rfl, o4_good x y u v⟩ (entsAt_cons (entAt_inst (sg_two x y u v (by decide) (by decide) ha hb) md28 mo28) (entsAt_cons (entAt_inst (sg_two x y u v (by decide) (by decide) ha hb) md29 mo29) (entsAt_cons mo32.at (entsAt_cons mo33.at entsAt_nil))))) (rows_cons (fnOk_esF ⟨rfl, o4_good x y u v⟩ (entsAt_cons (entAt_inst (sg_two x y u v (by decide) (by decide) ha hb) md30 mo30) (entsAt_cons (entAt_inst (sg_two x y u v (by decide) (by decide) ha hb) md31 mo31) (entsAt_cons mo34.at (entsAt_cons mo35.at entsAt_nil))))) (rows_cons (ents_cons mo72 ents_nil) (rows_cons (ents_cons mo73 (ents_cons mo74 (ents_cons (mx_all a b (by omega) (by omega)) ents_nil))) (rows_cons (fnOk_esF ⟨rfl, o4_good x y u v⟩ (entsAt_cons (entAt_inst (sg_two x y u v (by decide) (by decide) ha hb) md124 mo124) entsAt_nil)) (rows_cons ⟨rfl, _, awake_o⟩ (rows_cons prHas_ok rows_nil)))))))))))
theorem mr_tt_ok {x y u v : Int} {a b B0 : Nat} (ha : x4 x y u v 2 % 8 = (a : Int)) (hb : x4 x y u v 3 % 8 = (b : Int)) : RowsOk (env0 (o4 x y u v)) B0 (mr_tt a b) :=
  (rows_cons (prPq_ok (pq_cons (pq_q x y u v (by decide)) (pq_cons (pq_q x y u v (by decide)) (pq_cons (pq_n x y u v (by decide) ha) (pq_cons (pq_n x y u v (by decide) hb) pq_nil))))) (rows_cons (ents_cons wo2 ents_nil) (rows_cons (ents_cons mo7 ents_nil) (rows_cons (ents_cons mo27 ents_nil) (rows_cons (fnOk_esF ⟨rfl, o4_good x y u v⟩ (entsAt_cons mo28.at (entsAt_cons mo29.at (entsAt_cons (entAt_inst (sg_two x y u v (by decide) (by decide) ha hb) md32 mo32) (entsAt_cons (entAt_inst (sg_two x y u v (by decide) (by decide) ha hb) md33 mo33) entsAt_nil))))) (rows_cons (fnOk_esF ⟨rfl, o4_good x y u v⟩ (entsAt_cons mo30.at (entsAt_cons mo31.at (entsAt_cons (entAt_inst (sg_two x y u v (by decide) (by decide) ha hb) md34 mo34) (entsAt_cons (entAt_inst (sg_two x y u v (by decide) (by decide) ha hb) md35 mo35) entsAt_nil))))) (rows_cons (ents_cons mo72 ents_nil) (rows_cons (ents_cons mo73 (ents_cons mo74 (ents_cons (mx_all a b (by omega) (by omega)) ents_nil))) (rows_cons (fnOk_esF ⟨rfl, o4_good x y u v⟩ (entsAt_cons (entAt_inst (sg_two x y u v (by decide) (by decide) ha hb) md140 mo140) entsAt_nil)) (rows_cons ⟨rfl, _, awake_o⟩ (rows_cons prHas_ok rows_nil)))))))))))
end Go.Proofs.YtenpbpgoglepfaaGreatDoor
