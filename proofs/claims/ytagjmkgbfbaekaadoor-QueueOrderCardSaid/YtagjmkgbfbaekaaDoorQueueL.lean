/- The calls of package queue one by one as the laws use them; the document's example. No condition but that the errors stand in memory. -/
import Derived.Test.YtagjmkgbfbaekaaDoorQueueT
import Derived.Lib.SlBytesConst
namespace Go.Proofs.YtagjmkgbfbaekaaDoor
open Go.RowKit

section
variable {w w' : World} {g : Nat} {most : Int} {bs : List UInt8} {closed : Bool}
theorem QIs.lt (h : QIs w g most bs closed) : g < w.heap.size := by obtain ⟨_, h, _⟩ := h; exact h.lt
theorem QIs.below (h : QIs w g most bs closed) (hb : Below w.heap.size w w') : QIs w' g most bs closed := by
  obtain ⟨v, hg, hs, ho⟩ := h
  exact ⟨v, hg.below hb hg.lt, (hs.below hb).more hb.size, ho⟩
theorem QIs.alloc (h : QIs w g most bs closed) (o : Obj) : QIs (w.alloc o) g most bs closed := h.below ((Below.refl _ _).alloc (Nat.le_refl _) o)
end
theorem made_zero (n : Nat) : (madeCells (Value.int .u8 0).cells (n * 1)).toList = bv (List.replicate n 0) := by
  rw [Nat.mul_one]
  simp [madeCells, Value.cells, bv, Nat.mod_one, List.map_const']

/-- A literal of bytes behind its mark. -/
theorem lit_sl_mark (w : World) (e : TypeId) (bs : List UInt8) (n : Nat) (fr : Nat × Nat) (hn : bs.length = n) (hm : n ≤ 65536) :
    Sl (w.alloc (.cells (bv bs).toArray e fr)) (w.alloc (.cells (bv bs).toArray e fr)).heap.size (.slice (some ⟨w.heap.size, 0, none⟩) n n) (bv bs) := by
  refine SlN.toSl (n := n) ⟨by rw [bv_length]; omega, _, n, rfl, Nat.le_refl _, by unfold maxLen; omega, (fun h => by cases h), fun _ => ⟨w.heap.size, 0, rfl, by simp, fun j u hu => ?_⟩⟩
  rw [cell_of_row _ w.heap.size (0 + j) _ e fr (heap_alloc_new w _)]
  simpa using hu

section
variable (A : Nat → Addr) (g : Nat) (most : Int) (bs : List UInt8) (v : Value) (ys : List UInt8) (w : World) (hE : Errs w w.heap.size allErrs A) (hs : Sl w w.heap.size v (bv ys)) (hb : bs.length ≤ 16384) (hm0 : 0 ≤ most) (hm : most ≤ 16384) (hy : ys.length ≤ 140737488355328)
 include hE hs hb hm0 hm hy
theorem qput_ok (h : QIs w g most bs false) (hr : (bs.length : Int) + ys.length ≤ most) :
    Calls Tryd.prog 31 #[.pointer (some ⟨g, 0, none⟩), v] w fun e w' => e = .returned .nilIface ∧ QIs w' g most (bs ++ ys) false ∧ w.grownBy w' (some g) := by
  have hn : ¬ most - bs.length < ys.length := by omega
  refine (qput_any A g most bs false v ys w hE h hs hb hm0 hm hy).mono ?_
  rintro e w' ⟨rfl, h1, h2⟩
  exact ⟨by simp [putK, hn, errV], by simpa [putB, putC, hn] using h1, h2⟩
theorem qput_full (h : QIs w g most bs false) (hr : most < (bs.length : Int) + ys.length) :
    Calls Tryd.prog 31 #[.pointer (some ⟨g, 0, none⟩), v] w fun e w' => e = .returned (.iface 120 (.pointer (some (A 14)))) ∧ QIs w' g most bs true ∧ w.grownBy w' (some g) := by
  have hn : most - bs.length < ys.length := by omega
  refine (qput_any A g most bs false v ys w hE h hs hb hm0 hm hy).mono ?_
  rintro e w' ⟨rfl, h1, h2⟩
  exact ⟨by simp [putK, hn, errV], by simpa [putB, putC, hn] using h1, h2⟩
theorem qput_gone (h : QIs w g most bs true) :
    Calls Tryd.prog 31 #[.pointer (some ⟨g, 0, none⟩), v] w fun e w' => e = .returned (.iface 120 (.pointer (some (A 15)))) ∧ QIs w' g most bs true ∧ w.grownBy w' (some g) := by
  refine (qput_any A g most bs true v ys w hE h hs hb hm0 hm hy).mono ?_
  rintro e w' ⟨rfl, h1, h2⟩
  exact ⟨by simp [putK, errV], by simpa [putB, putC] using h1, h2⟩
end

set_option maxRecDepth 100000 in
set_option maxHeartbeats 800000 in
theorem qawake_any (A : Nat → Addr) (w : World) (hE : Errs w w.heap.size allErrs A) :
    Calls Tryd.prog 30 #[] w fun e w' => e = .returned (.bool true) ∧ Below w.heap.size w w' := by
  have HE := Lib.hid hE
  clear hE
  have kc := fun (w : World) (C : Array Value) (n c : Nat) => Lib.run_convert_bytes_const (P := Tryd.prog) w 31 5 C n c Tryd.underlying31 Tryd.underlying5
  go_enter Tryd.func30, Tryd.ntmps30
  go_wp2_with fail
  refine (qnew_any 4 w).mono ?_
  rintro e w1 ⟨rfl, hq1, hb1⟩
  rw [show max 0 (min (4 : Int) 16384) = 4 by decide] at hq1
  have HQ1 := Lib.hid hq1
  have hs1 := hb1.size
  clear hq1
  go_wp2_with fail
  have hb2 : Below w.heap.size w (w1.alloc (.cells (bv [97, 98, 99, 100, 101]).toArray 5 (5, 6))) := hb1.alloc hs1 _
  refine (qput_full A w.heap.size 4 [] _ [97, 98, 99, 100, 101] _ (HE.out.to hb2 hb2.size) (lit_sl_mark w1 5 [97, 98, 99, 100, 101] 5 (5, 6) rfl (by omega)) (by simp) (by omega) (by omega) (by simp) (HQ1.out.alloc _) (by simp)).mono ?_
  rintro e w3 ⟨rfl, hq3, hg3⟩
  have hb3 := below_of_only hb2 hg3 hb2.size (Nat.le_refl _)
  have HQ3 := Lib.hid hq3
  clear hq3 hg3 hb2
  go_wp2_with fail
  refine (kind_err A 14 (by omega) (by omega) _ (HE.out.to hb3 hb3.size)).mono ?_
  rintro e w4 ⟨rfl, hb4⟩
  have HQ4 := Lib.hid (HQ3.out.below hb4)
  have hb5 : Below w.heap.size w w4 := hb3.trans (hb4.mono hb3.size)
  clear hb4
  go_wp2_with fail
  refine (qclosed_any w.heap.size 4 [] true _ HQ4.out).mono ?_
  rintro e w5 ⟨rfl, rfl⟩
  go_wp2
  go_ret
  exact ⟨rfl, hb5⟩
end Go.Proofs.YtagjmkgbfbaekaaDoor
