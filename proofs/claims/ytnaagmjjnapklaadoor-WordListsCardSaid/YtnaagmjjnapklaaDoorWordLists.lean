/- WordLists returns true: lists may have any bytes; a text of one byte 0 alone is the empty one; none at all is none. No condition but what the card lists. -/
import Derived.Test.YtnaagmjjnapklaaDoorEnc
import Derived.Test.YtnaagmjjnapklaaDoorKind
import Derived.Test.YtnaagmjjnapklaaDoorFix
namespace Go.Proofs.YtnaagmjjnapklaaDoor
open Go.RowKit

set_option maxHeartbeats 1600000 in
theorem wordListsRow (A : Nat → Addr) (w : World) (hE : Errs w w.heap.size allErrs A) :
    Calls Tryd.prog 6 #[] w fun e w' => e = .returned (.bool true) ∧ Below w.heap.size w w' := by
  have m1 := mem_all 1 (by omega) (by omega)
  have m2 := mem_all 2 (by omega) (by omega)
  have m3 := mem_all 3 (by omega) (by omega)
  have m4 := mem_all 4 (by omega) (by omega)
  have r0 : gotR A [0, 0, 0, 0] 0 0 = .tuple #[.string ⟨#[]⟩, .int .i64 4, .nilIface] := by
    have e0 : gotE [0, 0, 0, 0] 0 0 = 0 := by decide
    have e1 : gotS [0, 0, 0, 0] 0 = [] := by decide
    have e2 : gotN [0, 0, 0, 0] 0 = 4 := by decide
    rw [gotR, e0, e1, e2]; rfl
  have r1 : gotR A [2, 0, 0, 0, 0, 255, 0, 0] 0 0 = .tuple #[.string ⟨#[0, 255]⟩, .int .i64 8, .nilIface] := by
    have e0 : gotE [2, 0, 0, 0, 0, 255, 0, 0] 0 0 = 0 := by decide
    have e1 : gotS [2, 0, 0, 0, 0, 255, 0, 0] 0 = [0, 255] := by decide
    have e2 : gotN [2, 0, 0, 0, 0, 255, 0, 0] 0 = 8 := by decide
    rw [gotR, e0, e1, e2]; rfl
  have r2 : textR A [1, 0, 0, 0, 0, 0, 0, 0] 0 = .tuple #[.string ⟨#[]⟩, .int .i64 8, .nilIface] := by
    have h := text_enc [] [] [] (by simp) (by simp)
    have hl : ([] : List UInt8) ++ (encB ([] ++ [0]) ++ []) = [1, 0, 0, 0, 0, 0, 0, 0] := by decide
    rw [hl] at h
    have e2 : gotN [1, 0, 0, 0, 0, 0, 0, 0] 0 = 8 := by decide
    have h1 := h.1
    have h2 := h.2.1
    simp only [List.length_nil, Int.ofNat_zero] at h1 h2
    rw [textR, h1, h2, e2]; rfl
  have r3 : textR A [0, 0, 0, 0] 0 = .tuple #[.string ⟨#[]⟩, .int .i64 0, .iface 70 (.pointer (some (A 3)))] := by
    have e0 : gotE [0, 0, 0, 0] 0 1 = 3 := by decide
    have e1 : textE [0, 0, 0, 0] 0 = 3 := by simp only [textE]; rw [e0]; rfl
    rw [textR, e1]; rfl
  have r4 : gotR A [2, 0, 0, 0, 0, 255, 0, 1] 0 0 = .tuple #[.string ⟨#[]⟩, .int .i64 0, .iface 70 (.pointer (some (A 3)))] := by
    have e0 : gotE [2, 0, 0, 0, 0, 255, 0, 1] 0 0 = 3 := by decide
    rw [gotR, e0]; rfl
  have r5 : gotR A [1, 16, 0, 0] 0 0 = .tuple #[.string ⟨#[]⟩, .int .i64 0, .iface 70 (.pointer (some (A 4)))] := by
    have e0 : gotE [1, 16, 0, 0] 0 0 = 4 := by decide
    rw [gotR, e0]; rfl
  have R := Lib.hid (And.intro r0 (And.intro r1 (And.intro r2 (And.intro r3 (And.intro r4 r5)))))
  clear r0 r1 r2 r3 r4 r5
  have M := Lib.hid (And.intro m1 (And.intro m2 (And.intro m3 m4)))
  clear m1 m2 m3 m4
  have HE := Lib.hid hE
  clear hE
  have HB : Hid (Below w.heap.size w w) := Below.refl _ _
  go_enter Tryd.func6, Tryd.ntmps6
  go_wp2_with fail
  have hb : Below w.heap.size w (w.alloc (.cells #[.int .u8 0, .int .u8 0, .int .u8 0, .int .u8 0] 5)) := HB.out.alloc HB.out.size _
  have hl : Sl (w.alloc (.cells #[.int .u8 0, .int .u8 0, .int .u8 0, .int .u8 0] 5)) (w.alloc (.cells #[.int .u8 0, .int .u8 0, .int .u8 0, .int .u8 0] 5)).heap.size (.slice (some ⟨w.heap.size, 0, none⟩) 4 4) (bv [0, 0, 0, 0]) := lit_sl w 5 [0, 0, 0, 0] 4 rfl (by omega)
  have hg := getList_any A allErrs _ _ 0 _ hl (HE.out.to hb hb.size) M.out.1 M.out.2.1 M.out.2.2.1 M.out.2.2.2
  rw [R.out.1] at hg
  have HG := Lib.hid hg
  have HBB := Lib.hid hb
  clear hg hl hb HB
  refine HG.out.mono ?_
  rintro e w0 ⟨rfl, hb0⟩
  have HB := Lib.hid (HBB.out.trans (hb0.mono HBB.out.size))
  have hsz0 := hb0.size
  clear hb0 HBB HG
  go_wp2_with fail
  have hb : Below w.heap.size w (w0.alloc (.cells #[.int .u8 2, .int .u8 0, .int .u8 0, .int .u8 0, .int .u8 0, .int .u8 255, .int .u8 0, .int .u8 0] 5)) := HB.out.alloc HB.out.size _
  have hl : Sl (w0.alloc (.cells #[.int .u8 2, .int .u8 0, .int .u8 0, .int .u8 0, .int .u8 0, .int .u8 255, .int .u8 0, .int .u8 0] 5)) (w0.alloc (.cells #[.int .u8 2, .int .u8 0, .int .u8 0, .int .u8 0, .int .u8 0, .int .u8 255, .int .u8 0, .int .u8 0] 5)).heap.size (.slice (some ⟨w0.heap.size, 0, none⟩) 8 8) (bv [2, 0, 0, 0, 0, 255, 0, 0]) := lit_sl w0 5 [2, 0, 0, 0, 0, 255, 0, 0] 8 rfl (by omega)
  have hg := getList_any A allErrs _ _ 0 _ hl (HE.out.to hb hb.size) M.out.1 M.out.2.1 M.out.2.2.1 M.out.2.2.2
  rw [R.out.2.1] at hg
  have HG := Lib.hid hg
  have HBB := Lib.hid hb
  clear hg hl hb HB
  refine HG.out.mono ?_
  rintro e w1 ⟨rfl, hb1⟩
  have HB := Lib.hid (HBB.out.trans (hb1.mono HBB.out.size))
  have hsz1 := hb1.size
  clear hb1 HBB HG
  go_wp2_with fail
  have hb : Below w.heap.size w (w1.alloc (.cells #[.int .u8 1, .int .u8 0, .int .u8 0, .int .u8 0, .int .u8 0, .int .u8 0, .int .u8 0, .int .u8 0] 5)) := HB.out.alloc HB.out.size _
  have hl : Sl (w1.alloc (.cells #[.int .u8 1, .int .u8 0, .int .u8 0, .int .u8 0, .int .u8 0, .int .u8 0, .int .u8 0, .int .u8 0] 5)) (w1.alloc (.cells #[.int .u8 1, .int .u8 0, .int .u8 0, .int .u8 0, .int .u8 0, .int .u8 0, .int .u8 0, .int .u8 0] 5)).heap.size (.slice (some ⟨w1.heap.size, 0, none⟩) 8 8) (bv [1, 0, 0, 0, 0, 0, 0, 0]) := lit_sl w1 5 [1, 0, 0, 0, 0, 0, 0, 0] 8 rfl (by omega)
  have hg := getText_any A allErrs _ _ 0 _ hl (HE.out.to hb hb.size) M.out.1 M.out.2.1 M.out.2.2.1 M.out.2.2.2
  rw [R.out.2.2.1] at hg
  have HG := Lib.hid hg
  have HBB := Lib.hid hb
  clear hg hl hb HB
  refine HG.out.mono ?_
  rintro e w2 ⟨rfl, hb2⟩
  have HB := Lib.hid (HBB.out.trans (hb2.mono HBB.out.size))
  have hsz2 := hb2.size
  clear hb2 HBB HG
  go_wp2_with fail
  have hb : Below w.heap.size w (w2.alloc (.cells #[.int .u8 0, .int .u8 0, .int .u8 0, .int .u8 0] 5)) := HB.out.alloc HB.out.size _
  have hl : Sl (w2.alloc (.cells #[.int .u8 0, .int .u8 0, .int .u8 0, .int .u8 0] 5)) (w2.alloc (.cells #[.int .u8 0, .int .u8 0, .int .u8 0, .int .u8 0] 5)).heap.size (.slice (some ⟨w2.heap.size, 0, none⟩) 4 4) (bv [0, 0, 0, 0]) := lit_sl w2 5 [0, 0, 0, 0] 4 rfl (by omega)
  have hg := getText_any A allErrs _ _ 0 _ hl (HE.out.to hb hb.size) M.out.1 M.out.2.1 M.out.2.2.1 M.out.2.2.2
  rw [R.out.2.2.2.1] at hg
  have HG := Lib.hid hg
  have HBB := Lib.hid hb
  clear hg hl hb HB
  refine HG.out.mono ?_
  rintro e w3 ⟨rfl, hb3⟩
  have HB := Lib.hid (HBB.out.trans (hb3.mono HBB.out.size))
  have hsz3 := hb3.size
  clear hb3 HBB HG
  go_wp2_with fail
  have hb : Below w.heap.size w (w3.alloc (.cells #[.int .u8 2, .int .u8 0, .int .u8 0, .int .u8 0, .int .u8 0, .int .u8 255, .int .u8 0, .int .u8 1] 5)) := HB.out.alloc HB.out.size _
  have hl : Sl (w3.alloc (.cells #[.int .u8 2, .int .u8 0, .int .u8 0, .int .u8 0, .int .u8 0, .int .u8 255, .int .u8 0, .int .u8 1] 5)) (w3.alloc (.cells #[.int .u8 2, .int .u8 0, .int .u8 0, .int .u8 0, .int .u8 0, .int .u8 255, .int .u8 0, .int .u8 1] 5)).heap.size (.slice (some ⟨w3.heap.size, 0, none⟩) 8 8) (bv [2, 0, 0, 0, 0, 255, 0, 1]) := lit_sl w3 5 [2, 0, 0, 0, 0, 255, 0, 1] 8 rfl (by omega)
  have hg := getList_any A allErrs _ _ 0 _ hl (HE.out.to hb hb.size) M.out.1 M.out.2.1 M.out.2.2.1 M.out.2.2.2
  rw [R.out.2.2.2.2.1] at hg
  have HG := Lib.hid hg
  have HBB := Lib.hid hb
  clear hg hl hb HB
  refine HG.out.mono ?_
  rintro e w4 ⟨rfl, hb4⟩
  have HB := Lib.hid (HBB.out.trans (hb4.mono HBB.out.size))
  have hsz4 := hb4.size
  clear hb4 HBB HG
  go_wp2_with fail
  have hb : Below w.heap.size w (w4.alloc (.cells #[.int .u8 1, .int .u8 16, .int .u8 0, .int .u8 0] 5)) := HB.out.alloc HB.out.size _
  have hl : Sl (w4.alloc (.cells #[.int .u8 1, .int .u8 16, .int .u8 0, .int .u8 0] 5)) (w4.alloc (.cells #[.int .u8 1, .int .u8 16, .int .u8 0, .int .u8 0] 5)).heap.size (.slice (some ⟨w4.heap.size, 0, none⟩) 4 4) (bv [1, 16, 0, 0]) := lit_sl w4 5 [1, 16, 0, 0] 4 rfl (by omega)
  have hg := getList_any A allErrs _ _ 0 _ hl (HE.out.to hb hb.size) M.out.1 M.out.2.1 M.out.2.2.1 M.out.2.2.2
  rw [R.out.2.2.2.2.2] at hg
  have HG := Lib.hid hg
  have HBB := Lib.hid hb
  clear hg hl hb HB
  refine HG.out.mono ?_
  rintro e w5 ⟨rfl, hb5⟩
  have HB := Lib.hid (HBB.out.trans (hb5.mono HBB.out.size))
  have hsz5 := hb5.size
  clear hb5 HBB HG
  go_wp2_with fail
  refine (kind_err A 3 (by omega) (by omega) _ (HE.out.to HB.out HB.out.size)).mono ?_
  rintro e x0 ⟨rfl, hb⟩
  have HB := Lib.hid (HB.out.trans (hb.mono HB.out.size))
  clear hb
  go_wp2_with fail
  refine (kind_err A 3 (by omega) (by omega) _ (HE.out.to HB.out HB.out.size)).mono ?_
  rintro e x1 ⟨rfl, hb⟩
  have HB := Lib.hid (HB.out.trans (hb.mono HB.out.size))
  clear hb
  go_wp2_with fail
  refine (kind_err A 4 (by omega) (by omega) _ (HE.out.to HB.out HB.out.size)).mono ?_
  rintro e x2 ⟨rfl, hb⟩
  have HB := Lib.hid (HB.out.trans (hb.mono HB.out.size))
  clear hb
  go_wp2_with fail
  refine (wawake_any _).mono ?_
  rintro e x9 ⟨rfl, hb⟩
  go_wp2_with fail
  go_ret
  exact ⟨rfl, HB.out.trans (hb.mono HB.out.size)⟩
end Go.Proofs.YtnaagmjjnapklaaDoor
