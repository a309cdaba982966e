/- The calls of package memory. No condition but that the errors stand in memory. -/
import Derived.Test.YtagjmkgbfbaekaaDoorMemR
import Derived.Test.YtagjmkgbfbaekaaDoorLater
import Derived.Deep.CutBlock
namespace Go.Proofs.YtagjmkgbfbaekaaDoor
open Go.RowKit
set_option maxRecDepth 100000

def setB (bs : List UInt8) (n : Nat) : List UInt8 := over (List.replicate n 0) 0 (bs.take n)
theorem setB_length (bs : List UInt8) (n : Nat) : (setB bs n).length = n := by unfold setB; rw [over_length _ _ _ (by simp; exact Nat.min_le_left _ _)]; simp
def old (L : List Ent) (k : Int) : List UInt8 := (has L k).getD []
theorem mem_set_ne {α β : Type} (f : α → β) : ∀ (l : List α) (j : Nat) (x y z : α), (l.map f).Nodup → l[j]? = some z → x ∈ l.set j y → x = y ∨ (x ∈ l ∧ f x ≠ f z)
  | [], _, _, _, _, _, h, _ => by simp at h
  | a :: l, 0, x, y, z, hn, h, hx => by
    simp at h; subst h
    simp only [List.set_cons_zero, List.mem_cons] at hx
    rcases hx with hx | hx
    · exact .inl hx
    · refine .inr ⟨List.mem_cons_of_mem _ hx, fun e => ?_⟩
      simp only [List.map_cons, List.nodup_cons] at hn
      exact hn.1 (by rw [← e]; exact List.mem_map_of_mem hx)
  | a :: l, j + 1, x, y, z, hn, h, hx => by
    simp only [List.map_cons, List.nodup_cons] at hn
    simp only [List.set_cons_succ, List.mem_cons] at hx
    rcases hx with rfl | hx
    · refine .inr ⟨List.mem_cons_self, fun e => hn.1 ?_⟩
      rw [e]
      exact List.mem_map_of_mem (List.mem_of_getElem? (by simpa using h))
    · rcases mem_set_ne f l j x y z hn.2 (by simpa using h) hx with h1 | ⟨h1, h2⟩
      · exact .inl h1
      · exact .inr ⟨List.mem_cons_of_mem _ h1, h2⟩
theorem set_same {α : Type} : ∀ (l : List α) (j : Nat) (x : α), l[j]? = some x → l.set j x = l
  | [], _, _, h => by simp at h
  | a :: l, 0, x, h => by simp at h; simp [h]
  | a :: l, j + 1, x, h => by simp at h; simp [set_same l j x h]
section
variable {w w' : World} {B g m : Nat} {L : List Ent}
/-- A memory's bytes, written. -/
theorem MemIs.wrote (h : MemIs w B g m L) {k : Int} {j b : Nat} {bs bs' : List UInt8} (hl : look L k = some (j, b, bs)) (hlen : bs'.length = bs.length) (hb : Blk w' b 5 (bv bs').toArray) (hg : w.grownBy w' (some b)) : MemIs w' B g m (put L k (b, bs')) ∧ MStep w w' m L (put L k (b, bs')) := by
  obtain ⟨hm1, hm2⟩ := look_mem L k j b bs hl
  rcases put_look L k (b, bs') with ⟨h0, _⟩ | ⟨j', b', bs2, hl', e, hj⟩
  · rw [h0] at hl; cases hl
  rw [hl] at hl'
  simp only [Option.some.injEq, Prod.mk.injEq] at hl'
  obtain ⟨rfl, rfl, rfl⟩ := hl'
  have hbg : g ≠ b := fun e => h.bg hm1 e.symm
  have hbm : m ≠ b := fun e => h.bm hm1 e.symm
  have hbl : (L.set j (k, b, bs')).map (·.2.1) = L.map (·.2.1) := by
    rw [List.map_set]
    exact set_same _ _ _ (by rw [List.getElem?_map, hm2]; rfl)
  have hen : (L.set j (k, b, bs')).map entE = L.map entE := by
    rw [List.map_set]
    exact set_same _ _ _ (by rw [List.getElem?_map, hm2]; simp [entE, entV, hlen])
  rw [e]
  refine ⟨⟨h.box.grown hg (fun e => hbg (by injection e)), ?_, fun x hx => ?_, ⟨h.low.1, h.low.2.1, fun x hx => ?_⟩, by rw [hbl]; exact h.dis⟩, ⟨hg.os, hg.tape, hg.output, hg.size, fun x hx ho => ⟨hg.block x hx (fun e => ?_), ho.1, fun y hy => ?_⟩⟩⟩
  · obtain ⟨es, c, h1, h2⟩ := h.map
    exact ⟨es, c, (hg.block m h.mlt (fun e => hbm (by injection e))).trans h1, by rw [hen]; exact h2⟩
  · rcases mem_set_ne (·.2.1) L j x (k, b, bs') (k, b, bs) h.dis hm2 hx with rfl | ⟨h1, h2⟩
    · exact hb
    · exact (h.row x h1).grown hg (fun e => h2 (by injection e))
  · rcases List.mem_or_eq_of_mem_set hx with hx | rfl
    · exact h.low.2.2 x hx
    · exact h.low.2.2 (k, b, bs) hm1
  · injection e with e
    exact ho.2 _ hm1 e.symm
  · rcases List.mem_or_eq_of_mem_set hy with hy | rfl
    · exact ho.2 y hy
    · exact ho.2 (k, b, bs) hm1
theorem MemIs.sl (h : MemIs w B g m L) {k : Int} {j b : Nat} {bs : List UInt8} (hl : look L k = some (j, b, bs)) (hm : bs.length ≤ maxLen) : Sl w w.heap.size (.slice (some ⟨b, 0, none⟩) bs.length bs.length) (bv bs) := by
  have hb := h.row _ (look_mem L k j b bs hl).1
  show SlN _ _ _ _ _ _
  rw [bv_length]
  refine ⟨by simp [bv_length], _, _, rfl, Nat.le_refl _, hm, (fun e => by cases e), fun _ => ⟨b, 0, rfl, Blk.lt hb, fun j u hu => ?_⟩⟩
  rw [hb.cell]
  simpa using hu
theorem old_look {k : Int} {j b : Nat} {bs : List UInt8} (hl : look L k = some (j, b, bs)) : old L k = bs := by simp [old, has, hl]
theorem old_none {k : Int} (hl : look L k = none) : old L k = [] := by simp [old, has, hl]
theorem MemIs.oldSl (h : MemIs w B g m L) (k : Int) (hm : ∀ x ∈ L, x.2.2.length ≤ 65536) : Sl w w.heap.size (lookV (look L k)) (bv (old L k)) := by
  cases hl : look L k with
  | none => rw [old_none hl]; exact Sl.nil_ _ _
  | some r =>
    obtain ⟨j, b, bs⟩ := r
    rw [old_look hl]
    exact h.sl hl (by have h1 : bs.length ≤ 65536 := hm _ (look_mem L k j b bs hl).1; show bs.length ≤ maxLen; unfold maxLen; omega)
end

/-- All memories are small. -/
def Small (L : List Ent) : Prop := ∀ x ∈ L, x.2.2.length ≤ 65536

set_option maxHeartbeats 400000 in
theorem mnew_any (w : World) : Calls Tryd.prog 14 #[] w fun e w' => e = .returned (.pointer (some ⟨w.heap.size + 1, 0, none⟩)) ∧ MemIs w' w.heap.size (w.heap.size + 1) w.heap.size [] ∧ Below w.heap.size w w' := by
  have hmm := @run_makeMap Tryd.prog
  go_enter Tryd.func14, Tryd.ntmps14
  go_wp2
  go_ret
  have h1 : (w.alloc (.map #[] 0)).heap[w.heap.size]? = some (.map #[] 0) := heap_alloc_new w _
  refine ⟨rfl, ⟨?_, ⟨#[], 0, ?_, rfl⟩, by simp, by simp, by simp⟩, ((Below.refl _ _).alloc (Nat.le_refl _) _).alloc (by simp) _⟩
  · simpa using Blk.new (w.alloc (.map #[] 0)) 84 #[.map (some w.heap.size)]
  · exact (Below.heap_alloc _ _ _ (by simp)).trans h1

set_option maxHeartbeats 800000 in
theorem mset_ok (B g m : Nat) (L : List Ent) (k n : Int) (w : World) (h : MemIs w B g m L) (hS : Small L) (h1 : 1 ≤ k) (h2 : k ≤ 255) (h3 : 0 ≤ n) (h4 : n ≤ 65536) (hB : B ≤ w.heap.size) :
    Calls Tryd.prog 15 #[.pointer (some ⟨g, 0, none⟩), .int .i64 k, .int .i64 n] w fun e w' => e = .returned .nilIface ∧
      MemIs w' B g m (put L k (w.heap.size, setB (old L k) n.toNat)) ∧ MStep w w' m L (put L k (w.heap.size, setB (old L k) n.toNat)) := by
  obtain ⟨c, rfl⟩ := Int.eq_ofNat_of_zero_le h3
  have hmk := run_make_bytes w c (by omega)
  have hb1 : Below w.heap.size w (w.alloc (.cells (bv (List.replicate c 0)).toArray 5)) := (Below.refl _ _).alloc (Nat.le_refl _) _
  have hm1 := h.below hb1
  have hs1 := h.below hb1 |>.oldSl k hS
  obtain ⟨w2, hcp, hblk2, hg2, hz2, _⟩ := run_copy_bytes (w.alloc (.cells (bv (List.replicate c 0)).toArray 5)) 3 (some ⟨w.heap.size, 0, none⟩) c c w.heap.size 0 (List.replicate c 0) (old L k) (lookV (look L k)) (Blk.new _ _ _) hs1 (fun _ => rfl) (by simp; exact Nat.min_le_right _ _)
  have hno : ∀ e ∈ L, e.2.1 ≠ w.heap.size := fun e he => Nat.ne_of_lt (Blk.lt (h.row e he))
  have hm2 : MemIs w2 B g m L := by
    obtain ⟨es, c', q1, q2⟩ := hm1.map
    refine ⟨hm1.box.grown hg2 (fun e => ?_), ⟨es, c', (hg2.block m hm1.mlt (fun e => ?_)).trans q1, q2⟩, fun x hx => (hm1.row x hx).grown hg2 (fun e => hno x hx (by injection e)), h.low, h.dis⟩
    · injection e with e; have := h.box.lt; omega
    · injection e with e; have := h.mlt; omega
  have hlen : (setB (old L k) c).length = c := setB_length _ _
  have hblk3 : Blk w2 w.heap.size 5 (bv (setB (old L k) c)).toArray := hblk2
  obtain ⟨w3, hup, hm3, hg3⟩ := run_update_mem hm2 k w.heap.size (setB (old L k) c) hblk3 hB hno
  rw [hlen] at hup
  have hlk := run_lookup_mem hm1 k
  have hs : w.heap.size + 1 = w2.heap.size := by rw [hz2]; simp
  have hfin : Hid (MStep w w3 m L (put L k (w.heap.size, setB (old L k) c))) := by
    refine ⟨hg3.os.trans (hg2.os.trans rfl), hg3.tape.trans (hg2.tape.trans rfl), hg3.output.trans (hg2.output.trans rfl), by have := hg3.size; omega, fun x hx ho => ⟨?_, ho.1, fun e he => ?_⟩⟩
    · rw [hg3.block x (by omega) (fun e => ho.1 (by injection e)), hg2.block x (by simp; omega) (fun e => by injection e with e; omega)]
      exact hb1.block x hx
    · rcases mem_put L k _ e he with he | rfl
      · exact ho.2 e he
      · exact Nat.ne_of_gt hx
  have HM3 := Lib.hid hm3
  have d1 : decide (k < 1) = false := by simpa using h1
  have d2 : decide (255 < k) = false := by simpa using h2
  have d3 : decide ((c : Int) < 0) = false := by simp
  have d4 : decide (65536 < (c : Int)) = false := by simpa using h4
  have gc0 := h.box.cell 0
  have gc1 := hm1.box.cell 0
  have gc2 := hm2.box.cell 0
  simp at gc0 gc1 gc2
  have hct : ((c : Int)).toNat = c := Int.toNat_natCast c
  rw [hct]
  generalize hW1 : (w.alloc (.cells (bv (List.replicate c 0)).toArray 5)) = w1 at *
  have HW1 := Lib.hid hW1
  clear hW1 hct hs hlen hblk3 hblk2 hg2 hg3 hm3 hm2 hm1 hb1 hs1 hz2 hno hB h3 hS
  go_enter Tryd.func15, Tryd.ntmps15
  go_upto_region 4 with (fail)
  go_upto_region 4 with (fail)
  go_upto_region 4 with (fail)
  go_upto_region 4 with (fail)
  go_wp2
  go_ret
  exact ⟨rfl, HM3.out, hfin.out⟩
end Go.Proofs.YtagjmkgbfbaekaaDoor
