/- The document's example of package memory; small lemmas of its laws. No condition. -/
import Derived.Test.YtagjmkgbfbaekaaDoorMemW
import Derived.Test.YtagjmkgbfbaekaaDoorPl
import Derived.Lib.SlBytesConst
namespace Go.Proofs.YtagjmkgbfbaekaaDoor
open Go.RowKit
set_option maxRecDepth 100000

theorem small_put {L : List Ent} (h : Small L) (k : Int) (b : Nat) (bs : List UInt8) (hb : bs.length ≤ 65536) : Small (put L k (b, bs)) := by
  intro x hx
  rcases mem_put L k (b, bs) x hx with hx | rfl
  · exact h x hx
  · exact hb
theorem small_nil : Small [] := fun x hx => by cases hx
theorem old_put (L : List Ent) (k : Int) (b : Nat) (bs : List UInt8) : old (put L k (b, bs)) k = bs := by simp [old, has_put]
theorem sizeM_ne (k q : Int) (L : List Ent) (y : Nat × List UInt8) (hq : q ≠ k) : sizeM (put L k y) q = sizeM L q := by simp [sizeM, has_put_ne k q y hq L]
/-- Two bytes, as they are built. -/
theorem lits_sl {w : World} {cs : Array Value} {f : Nat × Nat} (n : Nat) (bs : List UInt8) (hn : cs.size = n) (hm : n ≤ 65536) (h : cs.toList = bv bs) : Sl (w.alloc (.cells cs 5 f)) (w.alloc (.cells cs 5 f)).heap.size (.slice (some ⟨w.heap.size, 0, none⟩) n n) (bv bs) := by
  have hl : (bv bs).length = n := by rw [← h, Array.length_toList, hn]
  show SlN _ _ _ _ _ _
  rw [hl]
  refine ⟨by simp [hl], _, _, rfl, Nat.le_refl _, by unfold maxLen; omega, (fun e => by cases e), fun _ => ⟨w.heap.size, 0, rfl, by simp, fun j u hu => ?_⟩⟩
  rw [cell_of_row _ w.heap.size (0 + j) cs 5 f (heap_alloc_new w _)]
  rw [← h] at hu
  simpa using hu
theorem mwrite_okI (B g m : Nat) (L : List Ent) (k : Int) (i : Int) (a : Nat) (hi : i = a) (v : Value) (ys : List UInt8) (w : World) (h : MemIs w B g m L) (hS : Small L) (hv : Sl w w.heap.size v (bv ys)) {j b : Nat} {bs : List UInt8} (hl : look L k = some (j, b, bs)) (ha : a + ys.length ≤ bs.length) :
    Calls Tryd.prog 16 #[.pointer (some ⟨g, 0, none⟩), .int .i64 k, .int .i64 i, v] w fun e w' => e = .returned .nilIface ∧
      MemIs w' B g m (put L k (b, over bs a ys)) ∧ MStep w w' m L (put L k (b, over bs a ys)) := by subst hi; exact mwrite_ok B g m L k a v ys w h hS hv hl ha
theorem mread_okI (B g m : Nat) (L : List Ent) (k : Int) (i : Int) (a : Nat) (hi : i = a) (q : Int) (n : Nat) (hq : q = n) (w : World) (h : MemIs w B g m L) (hS : Small L) {j b : Nat} {bs : List UInt8} (hl : look L k = some (j, b, bs)) (ha : a + n ≤ bs.length) :
    Calls Tryd.prog 22 #[.pointer (some ⟨g, 0, none⟩), .int .i64 k, .int .i64 i, .int .i64 q] w fun e w' =>
      e = .returned (.tuple #[.slice (some ⟨w.heap.size, 0, none⟩) n n, .bool true]) ∧ Blk w' w.heap.size 5 (bv (readB bs a n)).toArray ∧ Below w.heap.size w w' := by subst hi hq; exact mread_ok B g m L k a n w h hS hl ha

set_option maxHeartbeats 3200000 in
theorem mawake_any (w : World) : Calls Tryd.prog 20 #[] w fun e w' => e = .returned (.bool true) ∧ Below w.heap.size w w' := by
  obtain ⟨s4, hs4⟩ : ∃ s, s = setB [] 4 := ⟨_, rfl⟩
  have hl4 : s4.length = 4 := by rw [hs4]; rfl
  obtain ⟨o4, ho4⟩ : ∃ s, s = over s4 2 [97, 98] := ⟨_, rfl⟩
  have hlo : o4.length = 4 := by rw [ho4, over_length _ _ _ (by simp [hl4]), hl4]
  have HW : Hid (wordB o4 0 = 1650524160) := by show _ = _; rw [ho4, hs4]; decide +kernel
  have HS4 := Lib.hid hs4
  have HO4 := Lib.hid ho4
  have HL4 := Lib.hid hl4
  have HLO := Lib.hid hlo
  clear hs4 ho4 hl4 hlo
  have kc := fun (w : World) (C : Array Value) (n c : Nat) => Lib.run_convert_bytes_const (P := Tryd.prog) w 31 5 C n c Tryd.underlying31 Tryd.underlying5
  go_enter Tryd.func20, Tryd.ntmps20
  go_wp2_with fail
  refine (mnew_any w).mono ?_
  rintro e w1 ⟨rfl, hm1, hb1⟩
  obtain ⟨g, hg⟩ : ∃ g, g = w.heap.size + 1 := ⟨_, rfl⟩
  obtain ⟨m, hm⟩ : ∃ g, g = w.heap.size := ⟨_, rfl⟩
  rw [← hg] at hm1 ⊢
  have HM1 : Hid (MemIs w1 w.heap.size g m []) := by rw [hm]; exact hm1
  have HB1 := Lib.hid hb1
  clear hm1 hb1 hg hm
  go_wp2_with fail
  refine (mset_ok w.heap.size g m [] 1 4 w1 HM1.out small_nil (by omega) (by omega) (by omega) (by omega) HB1.out.size).mono ?_
  rintro e w2 ⟨rfl, hm2, hst2⟩
  obtain ⟨b, hb⟩ : ∃ b, b = w1.heap.size := ⟨_, rfl⟩
  rw [← hb] at hm2 hst2
  have e1 : setB (old [] 1) (4 : Int).toNat = s4 := by rw [HS4.out]; rfl
  rw [e1] at hm2 hst2
  have HM2 := Lib.hid hm2
  have HB2 := Lib.hid (hst2.below HM1.out HB1.out HB1.out.size)
  clear hm2 hst2 e1 hb
  go_wp2_with fail
  have hsl := lits_sl (w := w2) (cs := #[.int .u8 97, .int .u8 98]) (f := (2, 3)) 2 [97, 98] rfl (by omega) rfl
  have hm3 := HM2.out.below ((Below.refl w2.heap.size w2).alloc (Nat.le_refl _) (.cells #[.int .u8 97, .int .u8 98] 5 (2, 3)))
  have HB3 := Lib.hid (HB2.out.alloc HB2.out.size (.cells #[.int .u8 97, .int .u8 98] 5 (2, 3)))
  have hl2 : ∃ j, look (put [] 1 (b, s4)) 1 = some (j, b, s4) := look_put 1 (b, s4) []
  obtain ⟨j, hj⟩ := hl2
  generalize (w2.alloc (Obj.cells _ _ _)) = w3 at hsl hm3 HB3 ⊢
  refine (mwrite_okI w.heap.size g m _ 1 2 2 rfl _ [97, 98] w3 hm3 (small_put small_nil _ _ _ (by rw [HL4.out]; omega)) hsl hj (by rw [HL4.out]; simp)).mono ?_
  rintro e w4 ⟨rfl, hm4, hst4⟩
  rw [← HO4.out] at hm4 hst4
  have HM4 := Lib.hid hm4
  have HB4 := Lib.hid (hst4.below hm3 HB3.out HB3.out.size)
  clear hm4 hst4 hm3 hsl hj
  go_wp2_with fail
  refine (mword_any w.heap.size g m _ 1 0 w4 HM4.out (small_put (small_put small_nil _ _ _ (by rw [HL4.out]; omega)) _ _ _ (by rw [HLO.out]; omega)) (by omega) (by omega)).mono ?_
  rintro e w5 ⟨rfl, rfl⟩
  rw [old_put, HW.out]
  go_wp2_with fail
  refine (msize_any w.heap.size g m _ 2 _ HM4.out).mono ?_
  rintro e w6 ⟨rfl, rfl⟩
  rw [sizeM_ne _ _ _ _ (by omega), sizeM_ne _ _ _ _ (by omega)]
  have hz : sizeM [] 2 = -1 := rfl
  rw [hz]
  go_wp2
  go_ret
  exact ⟨rfl, HB4.out⟩
end Go.Proofs.YtagjmkgbfbaekaaDoor
