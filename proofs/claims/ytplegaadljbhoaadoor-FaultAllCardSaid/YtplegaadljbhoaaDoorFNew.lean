/- fault.New over a plain error, fault.Wrap, an error's own words, tableaulaw00.Error, the document's example of layer 2. No condition but what is laid. -/
import Derived.Test.YtplegaadljbhoaaDoorFOf
namespace Go.Proofs.YtplegaadljbhoaaDoor
open Go.RowKit Go.Extern.Stop Go.Stop Go.Extern
set_option linter.unusedVariables false
set_option maxRecDepth 100000

def gtx (k : Nat) : ByteArray := ⟨(gtext k).toArray⟩
theorem Tryd.errE (v : Value) (w : World) : (Go.method 214 68 v "Error").run Tryd.prog w = .ok (56, v) w := by kernel_rfl
theorem etext_any (A : Nat → Addr) (k : Nat) (h1 : 1 ≤ k) (h2 : k ≤ 16) (w : World) (hE : Errs w w.heap.size allErrs A) :
    Calls Tryd.prog 56 #[.pointer (some (A k))] w fun e w' => e = .returned (.string (gtx k)) ∧ w = w' := by
  obtain ⟨_, _, _, hs, _, hc⟩ := hE.1 k (mem_all k h1 h2)
  have hc' : w.cell? (A k) = some (.string (gtx k)) := hc
  clear hE hc
  rcases hA : A k with ⟨b, o, sp⟩
  rw [hA] at hc' hs
  simp only at hs
  subst hs
  clear hA
  go_enter Tryd.func56, Tryd.ntmps56
  go_wp2
  go_ret
  exact ⟨rfl, rfl⟩
theorem wrap_any (A : Nat → Addr) (e : EC) (s : ByteArray) (w : World) (h : e.At A w w.heap.size) (hn : ¬ e.isNil) :
    Calls Tryd.prog 11 #[e.val A, .string s] w fun ev w' => ev = .returned ((EC.wrap w.heap.size s e).val A) ∧ (EC.wrap w.heap.size s e).At A w' w'.heap.size ∧ Below w.heap.size w w' := by
  obtain ⟨T0, u0, hv0⟩ := EC.val_iface (A := A) (w := w) (B := 0) hn
  have HV := Lib.hid hv0
  have HAT := Lib.hid h
  have HN : Hid (¬ e.isNil) := hn
  rw [hv0]
  clear h hn hv0
  go_enter Tryd.func11, Tryd.ntmps11
  go_wp2
  go_ret
  have hb : Below w.heap.size w (w.alloc (.cells #[.string s, .iface T0 u0] 50)) := (Below.refl _ _).alloc (Nat.le_refl _) _
  refine ⟨rfl, ⟨by simp, ?_, HN.out, HAT.out.below (Nat.le_refl _) hb⟩, hb⟩
  rw [HV.out]
  exact Blk.new _ _ _
theorem new_err (A : Nat → Addr) (k : Nat) (h1 : 1 ≤ k) (h2 : k ≤ 16) (o c : Int) (w : World) (hE : Errs w w.heap.size allErrs A) :
    Calls Tryd.prog 12 #[.int .i64 o, .int .i64 c, .iface 68 (.pointer (some (A k)))] w fun ev w' =>
      ev = .returned ((EC.fault w.heap.size o c (gtx k) (.base k)).val A) ∧ (EC.fault w.heap.size o c (gtx k) (.base k)).At A w' w'.heap.size ∧ Below w.heap.size w w' := by
  have mE := Tryd.errE
  obtain ⟨w1, hw1⟩ : ∃ w1, w1 = w.alloc (.cells #[.int .i64 o, .int .i64 c, .string ⟨#[]⟩, .iface 68 (.pointer (some (A k)))] 30) := ⟨_, rfl⟩
  have hb1 : Below w.heap.size w w1 := by rw [hw1]; exact (Below.refl _ _).alloc (Nat.le_refl _) _
  have hk1 : Blk w1 w.heap.size 30 #[.int .i64 o, .int .i64 c, .string ⟨#[]⟩, .iface 68 (.pointer (some (A k)))] := by rw [hw1]; exact Blk.new _ _ _
  have hs1 : w1.heap.size = w.heap.size + 1 := by rw [hw1, World.size_alloc]
  have HET := Lib.hid (etext_any A k h1 h2 w1 (hE.to hb1 hb1.size))
  have HB1 := Lib.hid hb1
  have HK1 := Lib.hid hk1
  have HS1 := Lib.hid hs1
  obtain ⟨g, hg⟩ : ∃ g, g = w.heap.size := ⟨_, rfl⟩
  have c2 : w1.cell? ⟨g, 2, none⟩ = some (.string ⟨#[]⟩) := by rw [hg]; exact hk1.cell 2
  have f2 : w1.frozen? ⟨g, 2, none⟩ = false := by rw [hg]; exact hk1.frozen 2
  have HG := Lib.hid hg
  have HW1 := Lib.hid hw1
  clear hE hb1 hk1 hs1 hw1 hg
  go_enter Tryd.func12, Tryd.ntmps12
  go_wp2_with fail
  rw [← HW1.out]
  refine HET.out.mono ?_
  rintro ev w2 ⟨rfl, rfl⟩
  rw [← HG.out]
  go_wp2_with fail
  go_ret
  rw [← HG.out] at HK1 HB1 HS1 ⊢
  refine ⟨rfl, ⟨by simp [HS1.out], ?_, h2⟩, HB1.out.setCell (Nat.le_refl _) _⟩
  have := HK1.out.set_ 2 (.string (gtx k))
  rw [EC.val, errV_pos A (by omega)]
  exact this
end Go.Proofs.YtplegaadljbhoaaDoor
