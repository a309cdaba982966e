/- fault.New over an error whose words are told by a contract. No condition. -/
import Derived.Test.YtplegaadljbhoaaDoorFText
namespace Go.Proofs.YtplegaadljbhoaaDoor
open Go.RowKit Go.Extern.Stop Go.Stop Go.Extern
set_option linter.unusedVariables false
set_option maxRecDepth 100000

theorem new_wrapped (A : Nat → Addr) (g : Nat) (s tx : ByteArray) (e : EC) (o c : Int) (w : World) (h : (EC.wrap g s e).At A w w.heap.size)
    (hc : ∀ w', Below w.heap.size w w' → Calls Tryd.prog 51 #[.pointer (some ⟨g, 0, none⟩)] w' fun e w2 => e = .returned (.string tx) ∧ Below w'.heap.size w' w2) :
    Calls Tryd.prog 12 #[.int .i64 o, .int .i64 c, .iface 48 (.pointer (some ⟨g, 0, none⟩))] w fun ev w' =>
      ev = .returned ((EC.fault w.heap.size o c tx (EC.wrap g s e)).val A) ∧ (EC.fault w.heap.size o c tx (EC.wrap g s e)).At A w' w'.heap.size ∧ Below w.heap.size w w' := by
  have mW := Tryd.errW
  obtain ⟨w1, hw1⟩ : ∃ w1, w1 = w.alloc (.cells #[.int .i64 o, .int .i64 c, .string ⟨#[]⟩, .iface 48 (.pointer (some ⟨g, 0, none⟩))] 30) := ⟨_, rfl⟩
  have hb1 : Below w.heap.size w w1 := by rw [hw1]; exact (Below.refl _ _).alloc (Nat.le_refl _) _
  have hk1 : Blk w1 w.heap.size 30 #[.int .i64 o, .int .i64 c, .string ⟨#[]⟩, .iface 48 (.pointer (some ⟨g, 0, none⟩))] := by rw [hw1]; exact Blk.new _ _ _
  have hs1 : w1.heap.size = w.heap.size + 1 := by rw [hw1, World.size_alloc]
  have HET := Lib.hid (hc w1 hb1)
  have HB1 := Lib.hid hb1
  have HK1 := Lib.hid hk1
  have HS1 := Lib.hid hs1
  have HAT := Lib.hid h
  obtain ⟨n, hn⟩ : ∃ n, n = w.heap.size := ⟨_, rfl⟩
  have HN := Lib.hid hn
  have HW1 := Lib.hid hw1
  clear h hc hb1 hk1 hs1 hw1 hn
  go_enter Tryd.func12, Tryd.ntmps12
  go_wp2_with fail
  rw [← HW1.out]
  refine HET.out.mono ?_
  rintro ev w2 ⟨rfl, hb2⟩
  rw [← HN.out] at HK1 HB1 HS1 HAT ⊢
  have HK2 := Lib.hid (HK1.out.below hb2 HK1.out.lt)
  have HB2 := Lib.hid (HB1.out.trans (hb2.mono (by rw [HS1.out]; omega)))
  have hsz := hb2.size
  have c2 : w2.cell? ⟨n, 2, none⟩ = some (.string ⟨#[]⟩) := HK2.out.cell 2
  have f2 : w2.frozen? ⟨n, 2, none⟩ = false := HK2.out.frozen 2
  have hlt : n < w2.heap.size := by rw [HS1.out] at hsz; omega
  have HLT := Lib.hid hlt
  clear hb2 hsz hlt
  go_wp2_with fail
  go_ret
  have hb3 := HB2.out.setCell (p := ⟨n, 2, none⟩) (Nat.le_refl n) (.string tx)
  refine ⟨by rw [← HN.out]; rfl, ⟨by rw [← HN.out]; simpa using HLT.out, ?_, ?_⟩, by rw [← HN.out]; exact hb3⟩
  · rw [← HN.out]
    exact HK2.out.set_ 2 (.string tx)
  · rw [← HN.out]
    exact HAT.out.below (Nat.le_refl _) hb3
end Go.Proofs.YtplegaadljbhoaaDoor
