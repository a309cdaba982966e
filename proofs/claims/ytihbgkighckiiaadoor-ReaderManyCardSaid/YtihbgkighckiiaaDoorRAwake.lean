/- Chapter 5's example. No condition but that the errors stand in memory. -/
import Derived.Test.YtihbgkighckiiaaDoorReader
import Derived.Lib.SmallJoins
namespace Go.Proofs.YtihbgkighckiiaaDoor
open Go.RowKit
set_option maxRecDepth 100000

theorem lit_sl_mark (w : World) (e : TypeId) (bs : List UInt8) (n : Nat) (fr : Nat × Nat) (hn : bs.length = n) (hm : n ≤ 65536) :
    Sl (w.alloc (.cells (bv bs).toArray e fr)) (w.alloc (.cells (bv bs).toArray e fr)).heap.size (.slice (some ⟨w.heap.size, 0, none⟩) n n) (bv bs) := by
  refine SlN.toSl (n := n) ⟨by rw [bv_length]; omega, _, n, rfl, Nat.le_refl _, by unfold maxLen; omega, (fun h => by cases h), fun _ => ⟨w.heap.size, 0, rfl, by simp, fun j u hu => ?_⟩⟩
  rw [cell_of_row _ w.heap.size (0 + j) _ e fr (heap_alloc_new w _)]
  simpa using hu

theorem RIs.below {A : Nat → Addr} {w w' : World} {g k : Nat} {left : List UInt8} (h : RIs A w g left k) (hb : Below w.heap.size w w') : RIs A w' g left k := by
  obtain ⟨v, h1, h2, h3⟩ := h
  exact ⟨v, h1.below hb h1.lt, (h2.below hb).more hb.size, h3⟩
def ex7 : List UInt8 := [1, 0, 0, 0, 2, 0, 8]
theorem fed_7 : fed [] 0 ex7 = ([], ex7, 0) := by
  unfold fed
  rw [if_neg (by omega), List.nil_append]
  exact feedL_short (by decide +kernel)
theorem fed_8 : fed ex7 0 [0] = ([(1, 2, ⟨#[]⟩)], [], 0) := by
  unfold fed
  rw [if_neg (by omega), feedL_msg (by decide +kernel) 8 (by decide +kernel) (by decide)]
  have hd : List.drop 8 (ex7 ++ [0]) = ([] : List UInt8) := rfl
  have he : feedL [] = ([], [], 0) := feedL_short (by decide +kernel)
  rw [hd, he]
  rw [show headO (ex7 ++ [0]) = 1 from by decide +kernel, show headP (ex7 ++ [0]) = 2 from by decide +kernel]
  rfl

set_option maxHeartbeats 800000 in
theorem w5awake_any (A : Nat → Addr) (S : List Nat) (h2 : 2 ∈ S) (h3 : 3 ∈ S) (h4 : 4 ∈ S) (w : World) (hE : Errs w w.heap.size S A) :
    Calls Tryd.prog 31 #[] w fun e w' => e = .returned (.bool true) ∧ Below w.heap.size w w' := by
  have HE := Lib.hid hE
  clear hE
  have kc := fun (w : World) (C : Array Value) (n c : Nat) => Lib.run_convert_bytes_const (P := Tryd.prog) w 30 5 C n c Tryd.underlying30 Tryd.underlying5
  go_enter Tryd.func31, Tryd.ntmps31
  go_wp2_with fail
  refine (new_any A w).mono ?_
  rintro e w1 ⟨rfl, hr1, hb1⟩
  have HR1 := Lib.hid hr1
  have HB1 := Lib.hid hb1
  clear hr1 hb1
  go_wp2_with fail
  have hba : Below w1.heap.size w1 (w1.alloc (.cells (bv ex7).toArray 5 (7, 8))) := (Below.refl _ _).alloc (Nat.le_refl _) _
  have hb2 : Below w.heap.size w (w1.alloc (.cells (bv ex7).toArray 5 (7, 8))) := HB1.out.trans (hba.mono HB1.out.size)
  refine (feed_any A S h2 h3 h4 w.heap.size [] 0 _ ex7 _ (HE.out.to hb2 hb2.size) (HR1.out.below hba) (lit_sl_mark w1 5 ex7 7 (7, 8) rfl (by omega)) (fun _ => by decide)).mono ?_
  rintro e w2 ⟨vl, rfl, hown, hr2, hg2⟩
  rw [fed_7] at hown hr2 ⊢
  have hb3 := below_of_only hb2 hg2 hb2.size (Nat.le_refl _)
  obtain ⟨A2, c2, rfl⟩ := own_slice' hown
  have HR2 := Lib.hid hr2
  have HB2 := Lib.hid hb3
  rw [errV_zero]
  clear hown hr2 hg2 hb3 hb2 hba
  go_wp2_with fail
  have hba : Below w2.heap.size w2 (w2.alloc (.cells (bv [0]).toArray 5)) := (Below.refl _ _).alloc (Nat.le_refl _) _
  have hb2 : Below w.heap.size w (w2.alloc (.cells (bv [0]).toArray 5)) := HB2.out.trans (hba.mono HB2.out.size)
  refine (feed_any A S h2 h3 h4 w.heap.size ex7 0 _ [0] _ (HE.out.to hb2 hb2.size) (HR2.out.below hba) (lit_sl w2 5 [0] 1 rfl (by omega)) (fun _ => by decide)).mono ?_
  rintro e w3 ⟨vl, rfl, hown, hr3, hg3⟩
  rw [fed_8] at hown hr3 ⊢
  have hb3 := below_of_only hb2 hg3 hb2.size (Nat.le_refl _)
  obtain ⟨A3, c3, rfl⟩ := own_slice' hown
  obtain ⟨_, A4, c4, hv, _, _, _, hx⟩ := SlN.of_own hown
  injection hv with e1 e2 e3
  subst e1 e3
  obtain ⟨bk, off, rfl, _, hx⟩ := hx (by simp)
  have x0 : w3.cell? ⟨bk, off, none⟩ = some (.int .i64 1) := hx 0 _ rfl
  have x1 : w3.cell? ⟨bk, off + 1, none⟩ = some (.int .i64 2) := hx 1 _ rfl
  have x2 : w3.cell? ⟨bk, off + 2, none⟩ = some (.string ⟨#[]⟩) := hx 2 _ rfl
  have HR3 := Lib.hid hr3
  have HB3 := Lib.hid hb3
  rw [errV_zero]
  clear hown hr3 hg3 hb3 hb2 hba hx
  go_wp2_with fail
  refine (left_any A w.heap.size [] 0 w3 HR3.out).mono ?_
  rintro e w4 ⟨rfl, rfl⟩
  go_wp2
  go_ret
  exact ⟨rfl, HB3.out⟩
end Go.Proofs.YtihbgkighckiiaaDoor
