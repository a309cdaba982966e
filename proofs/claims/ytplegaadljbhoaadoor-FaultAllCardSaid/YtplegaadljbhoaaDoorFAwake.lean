/- tableaulaw00.Error; the document's example of layer 2. No condition but what is laid. -/
import Derived.Test.YtplegaadljbhoaaDoorFNew
namespace Go.Proofs.YtplegaadljbhoaaDoor
open Go.RowKit Go.Extern.Stop Go.Stop Go.Extern
set_option linter.unusedVariables false
set_option maxRecDepth 100000

section
variable {A : Nat → Addr} {w : World}
theorem err_cells (hE : Errs w w.heap.size allErrs A) : w.cell? ⟨0, 0, none⟩ = some (.iface 68 (.pointer (some (A 1)))) ∧ w.cell? ⟨2, 0, none⟩ = some (.iface 68 (.pointer (some (A 2)))) ∧
    w.cell? ⟨3, 0, none⟩ = some (.iface 68 (.pointer (some (A 3)))) ∧ w.cell? ⟨4, 0, none⟩ = some (.iface 68 (.pointer (some (A 4)))) ∧
    w.cell? ⟨5, 0, none⟩ = some (.iface 68 (.pointer (some (A 5)))) ∧ w.cell? ⟨6, 0, none⟩ = some (.iface 68 (.pointer (some (A 6)))) ∧
    w.cell? ⟨7, 0, none⟩ = some (.iface 68 (.pointer (some (A 7)))) ∧ w.cell? ⟨8, 0, none⟩ = some (.iface 68 (.pointer (some (A 8)))) ∧
    w.cell? ⟨9, 0, none⟩ = some (.iface 68 (.pointer (some (A 9)))) ∧ w.cell? ⟨1, 0, none⟩ = some (.iface 68 (.pointer (some (A 10)))) ∧
    w.cell? ⟨10, 0, none⟩ = some (.iface 68 (.pointer (some (A 11)))) ∧ w.cell? ⟨11, 0, none⟩ = some (.iface 68 (.pointer (some (A 12)))) ∧
    w.cell? ⟨12, 0, none⟩ = some (.iface 68 (.pointer (some (A 13)))) ∧ w.cell? ⟨13, 0, none⟩ = some (.iface 68 (.pointer (some (A 14)))) ∧
    w.cell? ⟨14, 0, none⟩ = some (.iface 68 (.pointer (some (A 15)))) ∧ w.cell? ⟨15, 0, none⟩ = some (.iface 68 (.pointer (some (A 16)))) :=
  ⟨hE.var (mem_all 1 (by omega) (by omega)), hE.var (mem_all 2 (by omega) (by omega)), hE.var (mem_all 3 (by omega) (by omega)), hE.var (mem_all 4 (by omega) (by omega)), hE.var (mem_all 5 (by omega) (by omega)), hE.var (mem_all 6 (by omega) (by omega)),
   hE.var (mem_all 7 (by omega) (by omega)), hE.var (mem_all 8 (by omega) (by omega)), hE.var (mem_all 9 (by omega) (by omega)), hE.var (mem_all 10 (by omega) (by omega)), hE.var (mem_all 11 (by omega) (by omega)), hE.var (mem_all 12 (by omega) (by omega)),
   hE.var (mem_all 13 (by omega) (by omega)), hE.var (mem_all 14 (by omega) (by omega)), hE.var (mem_all 15 (by omega) (by omega)), hE.var (mem_all 16 (by omega) (by omega))⟩
end
set_option maxHeartbeats 800000 in
theorem error_ok (A : Nat → Addr) (i : Nat) (hi : i < 16) (z : Int) (hz : z = (i : Int) + 1) (w : World) (hE : Errs w w.heap.size allErrs A) :
    Calls Tryd.prog 9 #[.int .i64 z] w fun e w' => e = .returned (.iface 68 (.pointer (some (A (i + 1))))) ∧ Below w.heap.size w w' := by
  subst hz
  obtain ⟨c1, c2, c3, c4, c5, c6, c7, c8, c9, c10, c11, c12, c13, c14, c15, c16⟩ := err_cells hE
  have d1 : decide ((i : Int) + 1 < 1) = false := by simp; omega
  have d2 : decide (16 < (i : Int) + 1) = false := by simp; omega
  clear hE
  go_enter Tryd.func9, Tryd.ntmps9
  go_wp2
  go_ret
  refine ⟨?_, (Below.refl _ _).alloc (Nat.le_refl _) _⟩
  clear d1 d2 c1 c2 c3 c4 c5 c6 c7 c8 c9 c10 c11 c12 c13 c14 c15 c16
  have : i = 0 ∨ i = 1 ∨ i = 2 ∨ i = 3 ∨ i = 4 ∨ i = 5 ∨ i = 6 ∨ i = 7 ∨ i = 8 ∨ i = 9 ∨ i = 10 ∨ i = 11 ∨ i = 12 ∨ i = 13 ∨ i = 14 ∨ i = 15 := by omega
  rcases this with rfl | rfl | rfl | rfl | rfl | rfl | rfl | rfl | rfl | rfl | rfl | rfl | rfl | rfl | rfl | rfl <;> rfl
set_option maxHeartbeats 800000 in
theorem error_no (A : Nat → Addr) (z : Int) (hz : z < 1 ∨ 16 < z) (w : World) (hE : Errs w w.heap.size allErrs A) :
    Calls Tryd.prog 9 #[.int .i64 z] w fun e w' => e = .returned .nilIface ∧ Below w.heap.size w w' := by
  obtain ⟨c1, c2, c3, c4, c5, c6, c7, c8, c9, c10, c11, c12, c13, c14, c15, c16⟩ := err_cells hE
  clear hE
  by_cases h : z < 1
  · have d1 : decide (z < 1) = true := by simp; omega
    go_enter Tryd.func9, Tryd.ntmps9
    go_wp2
    go_ret
    exact ⟨rfl, (Below.refl _ _).alloc (Nat.le_refl _) _⟩
  · have d1 : decide (z < 1) = false := by simp; omega
    have d2 : decide (16 < z) = true := by simp; omega
    have d3 : 16 < z := by omega
    go_enter Tryd.func9, Tryd.ntmps9
    go_wp2
    go_ret
    exact ⟨rfl, (Below.refl _ _).alloc (Nat.le_refl _) _⟩
set_option maxHeartbeats 800000 in
theorem f2awake_any (A : Nat → Addr) (w : World) (hE : Errs w w.heap.size allErrs A) (hy : ETy w w.heap.size) :
    Calls Tryd.prog 8 #[] w fun e w' => e = .returned (.bool true) ∧ Below w.heap.size w w' := by
  have HE := Lib.hid hE
  have HY := Lib.hid hy
  have c10 : w.cell? ⟨1, 0, none⟩ = some (.iface 68 (.pointer (some (A 10)))) := hE.var (mem_all 10 (by omega) (by omega))
  have ht : gtx 10 = ⟨#[114, 111, 108, 101]⟩ := rfl
  have HT := Lib.hid ht
  clear hE hy ht
  go_enter Tryd.func8, Tryd.ntmps8
  go_wp2_with fail
  refine (new_err A 10 (by omega) (by omega) 3 6 w HE.out).mono ?_
  rintro ev w1 ⟨rfl, hat1, hb1⟩
  rw [HT.out] at hat1 ⊢
  have HA1 := Lib.hid hat1
  have HB1 := Lib.hid hb1
  obtain ⟨e1, he1⟩ : ∃ e1, e1 = EC.fault w.heap.size 3 6 ⟨#[114, 111, 108, 101]⟩ (.base 10) := ⟨_, rfl⟩
  rw [← he1] at HA1 ⊢
  have HE1 := Lib.hid he1
  clear hat1 hb1 he1
  go_wp2_with fail
  refine (wrap_any A e1 _ w1 HA1.out (by rw [HE1.out]; simp [EC.isNil])).mono ?_
  rintro ev w2 ⟨rfl, hat2, hb2⟩
  obtain ⟨e2, he2⟩ : ∃ e2, e2 = EC.wrap w1.heap.size ⟨#[120]⟩ e1 := ⟨_, rfl⟩
  rw [← he2] at hat2 ⊢
  have HA2 := Lib.hid hat2
  have HB2 := Lib.hid (HB1.out.trans (hb2.mono HB1.out.size))
  have HE2 := Lib.hid he2
  clear hat2 hb2 he2
  go_wp2_with fail
  refine (of_any A e2 w2 (HY.out.to HB2.out HB2.out.size) HA2.out (by rw [HE2.out]; simp [EC.isNil])).mono ?_
  rintro ev w3 ⟨rfl, hb3⟩
  have hof : ofR A e2 = .tuple #[.agg #[.int .i64 3, .int .i64 6, .string ⟨#[114, 111, 108, 101]⟩, .iface 68 (.pointer (some (A 10)))], .bool true] := by rw [HE2.out, HE1.out]; rfl
  rw [hof]
  have hb4 : Below w.heap.size w (w3.alloc (.cells #[.int .i64 3, .int .i64 6, .string ⟨#[114, 111, 108, 101]⟩, .iface 68 (.pointer (some (A 10)))] 30)) := (HB2.out.trans (hb3.mono HB2.out.size)).alloc (HB2.out.trans (hb3.mono HB2.out.size)).size _
  have HB4 := Lib.hid hb4
  have c10b := (HE.out.to hb4 hb4.size).var (mem_all 10 (by omega) (by omega))
  have c10c : (w3.alloc (.cells #[.int .i64 3, .int .i64 6, .string ⟨#[114, 111, 108, 101]⟩, .iface 68 (.pointer (some (A 10)))] 30)).cell? ⟨1, 0, none⟩ = some (.iface 68 (.pointer (some (A 10)))) := c10b
  clear hb3 hb4 hof c10 c10b
  go_wp2_with fail
  refine (fkind_nil _).mono ?_
  rintro ev w4 ⟨rfl, rfl⟩
  go_wp2_with fail
  refine (fkind_any A (.base 10) _ (HE.out.to HB4.out HB4.out.size) (show (10 : Nat) ≤ 16 by omega) (by simp [EC.isNil])).mono ?_
  rintro ev w5 ⟨rfl, hb5⟩
  have hk10 : ((kindR (.base 10) : Nat) : Int) = 10 := rfl
  rw [hk10]
  have HB5 := Lib.hid (HB4.out.trans (hb5.mono HB4.out.size))
  clear hb5 c10c hk10
  go_wp2_with fail
  go_ret
  exact ⟨rfl, HB5.out⟩
end Go.Proofs.YtplegaadljbhoaaDoor
