/- What the laid list gives where errors.errorType stands in it. No condition. -/
import Derived.Test.YtplegaadljbhoaaDoorFOf
import Derived.LaidHandle
namespace Go.Proofs.YtplegaadljbhoaaDoor
open Go.RowKit Go.ChangeShapes

theorem et_named : Tryd.prog.globalNamed "errors.errorType" = some 16 := by kernel_rfl
theorem et_rt : (Tryd.prog.cutTypes.find? (·.1 == "internal/reflectlite.rtype")).map (·.2) = some 72 := by kernel_rfl
theorem et_row : ((List.range (214 - 100)).filter fun t => Tryd.prog.rowNamed t [101, 114, 114, 111, 114]) = [24] := by kernel_rfl
theorem et_size : Tryd.prog.types.size = 214 - 100 := by kernel_rfl
theorem et_of_laid {W : World} (h : handlesMet Tryd.prog [("errors.errorType", Rows.laid_errors_errorType)] W) : ETy W W.heap.size := by
  obtain ⟨name, u, ty, e1, e2, e3, e4, e5⟩ := h _ (List.mem_singleton.2 rfl)
  have en : name = [101, 114, 114, 111, 114] := (Option.some.inj e1).symm
  subst en
  obtain rfl := Option.some.inj (et_rt.symm.trans e2)
  have hm : ty ∈ (List.range (214 - 100)).filter fun t => Tryd.prog.rowNamed t [101, 114, 114, 111, 114] := List.mem_filter.2 ⟨List.mem_range.2 (by rw [← et_size]; exact e3), e4⟩
  rw [et_row] at hm
  obtain rfl := List.mem_singleton.1 hm
  have hh : typeHandle Tryd.prog 24 = .pointer (some ⟨17, 24, none⟩) := by kernel_rfl
  rw [hh] at e5
  have hc : W.cell? ⟨16, 0, none⟩ = some (.iface 72 (.agg #[.pointer (some ⟨17, 24, none⟩)])) := by simpa using World.var?_cell et_named e5 0
  exact ⟨hc, World.block_lt_of_cell? _ _ hc⟩
theorem fault_laid {W : World} (h : laidMet Tryd.prog (allErrs.map mkLaid) W ∧ handlesMet Tryd.prog [("errors.errorType", Rows.laid_errors_errorType)] W) : ∃ A, Errs W W.heap.size allErrs A ∧ ETy W W.heap.size := by
  obtain ⟨A, hA⟩ := errs_of_list allErrs (fun k hk => by
    simp only [allErrs, List.mem_cons, List.not_mem_nil, or_false] at hk
    rcases hk with rfl | rfl | rfl | rfl | rfl | rfl | rfl | rfl | rfl | rfl | rfl | rfl | rfl | rfl | rfl | rfl
    · exact gn1
    · exact gn2
    · exact gn3
    · exact gn4
    · exact gn5
    · exact gn6
    · exact gn7
    · exact gn8
    · exact gn9
    · exact gn10
    · exact gn11
    · exact gn12
    · exact gn13
    · exact gn14
    · exact gn15
    · exact gn16) h.1
  exact ⟨A, hA, et_of_laid h.2⟩
theorem apart_met {W : World} (h : laidMetH Tryd.prog Rows.faultApartRow.laid W) : ∃ A, Errs W W.heap.size allErrs A ∧ ETy W W.heap.size := fault_laid h
end Go.Proofs.YtplegaadljbhoaaDoor
