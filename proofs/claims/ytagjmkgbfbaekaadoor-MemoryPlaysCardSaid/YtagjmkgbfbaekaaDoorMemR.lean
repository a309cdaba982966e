/- What one operation on memories does: lookup, mapUpdate, make, copy. No condition. -/
import Derived.Test.YtagjmkgbfbaekaaDoorMem
import Derived.Test.YtagjmkgbfbaekaaDoorKind
import Derived.Test.YtagjmkgbfbaekaaDoorApp
namespace Go.Proofs.YtagjmkgbfbaekaaDoor
open Go.RowKit
set_option maxRecDepth 100000

theorem Tryd.infoB8 : (Tryd.prog.info? 5).map (fun i => (i.zero, i.size, i.bytes)) = some (some (.int .u8 0), 1, 1) := by kernel_rfl
/-- What a lookup answers. -/
def lookV (r : Option (Nat × Nat × List UInt8)) : Value := match r with | none => .slice none 0 0 | some r => .slice (some ⟨r.2.1, 0, none⟩) r.2.2.length r.2.2.length
section
variable {w : World} {B g m : Nat} {L : List Ent}
theorem run_zero_bytes (w : World) : (zeroValue 31).run Tryd.prog w = .ok (.slice none 0 0) w := by kernel_rfl
theorem check_int (w : World) (e : Bool) (n : Nat) (k : Int) : (Instr.checkKey e (n + 1) 3 (.int .i64 k)).run Tryd.prog w = .ok () w := by
  unfold Instr.checkKey
  simp [run_underlying Tryd.underlying3]
theorem find_mem (w : World) (es : List MapEntry) (L : List Ent) (k : Int) (h : es.map (fun e => (e.key, e.val)) = L.map entE) :
    (Instr.findKey 3 (.int .i64 k) es).run Tryd.prog w = .ok ((look L k).map fun r => (r.1, .slice (some ⟨r.2.1, 0, none⟩) r.2.2.length r.2.2.length)) w := by
  unfold Instr.findKey
  simp [run_underlying Tryd.underlying3, findNow_spec k es L 0 h]
theorem run_lookup_mem (h : MemIs w B g m L) (k : Int) : (Instr.lookup 82 (.map (some m)) (.int .i64 k) false).run Tryd.prog w = .ok (lookV (look L k)) w := by
  obtain ⟨es, c, h1, h2⟩ := h.map
  have hg : (getObj m).run Tryd.prog w = .ok (.map es c) w := by simp [getObj, Sem.run, h1]
  unfold Instr.lookup
  simp only [Sem.run_bind, run_underlying Tryd.underlying82, Result.andThen_ok, hg, Sem.run_pure, check_int, find_mem w es.toList L k h2]
  cases look L k with
  | none => simp [lookV]
  | some r => simp [lookV]
theorem run_lookup_ok (h : MemIs w B g m L) (k : Int) : (Instr.lookup 82 (.map (some m)) (.int .i64 k) true).run Tryd.prog w = .ok (.tuple #[lookV (look L k), .bool (look L k).isSome]) w := by
  obtain ⟨es, c, h1, h2⟩ := h.map
  have hg : (getObj m).run Tryd.prog w = .ok (.map es c) w := by simp [getObj, Sem.run, h1]
  unfold Instr.lookup
  simp only [Sem.run_bind, run_underlying Tryd.underlying82, Result.andThen_ok, hg, Sem.run_pure, check_int, find_mem w es.toList L k h2]
  cases look L k with
  | none => simp [lookV]
  | some r => simp [lookV]
theorem run_stays (k : Int) (w : World) : (Instr.keyThatStays (.int .i64 k) (.int .i64 k)).run Tryd.prog w = .ok (.int .i64 k) w := by
  unfold Instr.keyThatStays
  simp [Instr.sameBits]
theorem heap_set (w : World) (m x : Nat) (o : Obj) (h : x ≠ m) : (w.heap.setIfInBounds m o)[x]? = w.heap[x]? := by
  rw [Array.getElem?_setIfInBounds_ne (Ne.symm h)]
theorem run_setObj (w : World) (m : Nat) (o o' : Obj) (h : w.heap[m]? = some o) (hc : ∀ c t f, o ≠ .cells c t f) : (setObj m o').run Tryd.prog w = .ok () { w with heap := w.heap.setIfInBounds m o' } := by
  unfold setObj
  simp only [Sem.run, h]
theorem nodup_set {α : Type} : ∀ (l : List α) (j : Nat) (x : α), l.Nodup → x ∉ l → (l.set j x).Nodup
  | [], _, _, h, _ => by simp
  | y :: l, 0, x, h, hx => by
    simp only [List.mem_cons, not_or] at hx
    exact List.nodup_cons.2 ⟨hx.2, (List.nodup_cons.1 h).2⟩
  | y :: l, j + 1, x, h, hx => by
    simp only [List.mem_cons, not_or] at hx
    obtain ⟨h1, h2⟩ := List.nodup_cons.1 h
    refine List.nodup_cons.2 ⟨fun hm => ?_, nodup_set l j x h2 hx.2⟩
    rcases List.mem_or_eq_of_mem_set hm with hm | hm
    · exact h1 hm
    · exact hx.1 hm.symm
theorem MemIs.put_ (h : MemIs w B g m L) (k : Int) (b : Nat) (bs : List UInt8) (es' : Array MapEntry) (c' : Nat) (hb : Blk w b 5 (bv bs).toArray) (hB : B ≤ b) (hn : ∀ e ∈ L, e.2.1 ≠ b)
    (he : es'.toList.map (fun e => (e.key, e.val)) = (put L k (b, bs)).map entE) : MemIs { w with heap := w.heap.setIfInBounds m (.map es' c') } B g m (put L k (b, bs)) := by
  obtain ⟨es, c, h1, h2⟩ := h.map
  have hbm : b ≠ m := by
    rintro rfl
    unfold Blk at hb
    rw [h1] at hb
    cases hb
  refine ⟨(heap_set w m g _ h.gm).trans h.box, ⟨es', c', ?_, he⟩, fun x hx => ?_, ⟨h.low.1, h.low.2.1, fun x hx => ?_⟩, ?_⟩
  · simp [h.mlt]
  · rcases mem_put L k (b, bs) x hx with hx | rfl
    · exact (heap_set w m _ _ (h.bm hx)).trans (h.row x hx)
    · exact (heap_set w m _ _ hbm).trans hb
  · rcases mem_put L k (b, bs) x hx with hx | rfl
    · exact h.low.2.2 x hx
    · exact hB
  · have hb' : b ∉ L.map (·.2.1) := by
      intro hm
      obtain ⟨e, he1, he2⟩ := List.mem_map.1 hm
      exact hn e he1 he2
    rcases put_look L k (b, bs) with ⟨_, e⟩ | ⟨j, b0, bs0, _, e, hj⟩
    · rw [e, List.map_append]
      exact List.nodup_append.2 ⟨h.dis, by simp, fun x hx y hy hxy => by simp at hy; subst hy; subst hxy; exact hb' hx⟩
    · rw [e, List.map_set]
      exact nodup_set _ _ _ h.dis hb'
theorem run_update_mem (h : MemIs w B g m L) (k : Int) (b : Nat) (bs : List UInt8) (hb : Blk w b 5 (bv bs).toArray) (hB : B ≤ b) (hn : ∀ e ∈ L, e.2.1 ≠ b) :
    ∃ w', (Instr.mapUpdate 82 (.map (some m)) (.int .i64 k) (.slice (some ⟨b, 0, none⟩) bs.length bs.length)).run Tryd.prog w = .ok () w' ∧ MemIs w' B g m (put L k (b, bs)) ∧ w.grownBy w' (some m) := by
  obtain ⟨es, c, h1, h2⟩ := h.map
  have hg : (getObj m).run Tryd.prog w = .ok (.map es c) w := by simp [getObj, Sem.run, h1]
  have hs : ∀ es' c', (setObj m (.map es' c')).run Tryd.prog w = .ok () { w with heap := w.heap.setIfInBounds m (.map es' c') } := fun es' c' => run_setObj w m _ _ h1 (by simp)
  have only : ∀ es' c', w.grownBy { w with heap := w.heap.setIfInBounds m (.map es' c') } (some m) := fun es' c' =>
    ⟨rfl, rfl, rfl, by simp, fun i _ hne => heap_set w m i _ (fun e => hne (by rw [e]))⟩
  rcases put_look L k (b, bs) with ⟨hl, e⟩ | ⟨j, b0, bs0, hl, e, hj⟩
  · refine ⟨_, ?_, h.put_ k b bs (es.push ⟨.int .i64 k, .slice (some ⟨b, 0, none⟩) bs.length bs.length, c⟩) (c + 1) hb hB hn ?_, only _ _⟩
    · unfold Instr.mapUpdate
      simp only [Sem.run_bind, run_underlying Tryd.underlying82, Result.andThen_ok, hg, check_int, find_mem w es.toList L k h2, hl, Option.map_none, hs]
    · rw [e]; simp [h2, entE, entV]
  · have hjl : j < es.size := by
      have := congrArg List.length h2
      simp at this; omega
    have hk : es[j]?.map (·.key) = some (.int .i64 k) := by
      have h3 := congrArg (fun l => l[j]?) h2
      simp only [List.getElem?_map] at h3
      rw [(look_mem L k j b0 bs0 hl).2] at h3
      simp only [Option.map_some, entE, Array.getElem?_toList] at h3
      rw [Array.getElem?_eq_getElem hjl] at h3 ⊢
      simp only [Option.map_some, Option.some.injEq, Prod.mk.injEq] at h3 ⊢
      exact h3.1
    refine ⟨_, ?_, h.put_ k b bs (es.modify j fun e => { e with key := .int .i64 k, val := .slice (some ⟨b, 0, none⟩) bs.length bs.length }) c hb hB hn ?_, only _ _⟩
    · unfold Instr.mapUpdate
      simp only [Sem.run_bind, run_underlying Tryd.underlying82, Result.andThen_ok, hg, check_int, find_mem w es.toList L k h2, hl, Option.map_some, hk, Option.getD_some, run_stays, hs]
    · rw [e, List.map_set, ← h2]
      apply List.ext_getElem?
      intro i
      simp only [List.getElem?_map, Array.getElem?_toList, Array.getElem?_modify, List.getElem?_set, List.length_map, Array.length_toList]
      by_cases hij : j = i
      · subst hij
        simp [hjl, entE, entV]
      · simp [hij]
/-- New bytes, all 0. -/
theorem run_make_bytes (w : World) (n : Nat) (h : n ≤ 65536) : (Instr.makeSlice 31 (.int .i64 (n : Int)) (.int .i64 (n : Int))).run Tryd.prog w = .ok (.slice (some ⟨w.heap.size, 0, none⟩) n n) (w.alloc (.cells (bv (List.replicate n 0)).toArray 5)) := by
  obtain ⟨i, hi, hz, hs1, hby⟩ := info_parts Tryd.infoB8
  have := run_make (P := Tryd.prog) w 31 5 i (.int .u8 0) Tryd.underlying31 hi hz .i64 .i64 n n (by omega) (Int.le_refl _) (by rw [hby]; omega) (by omega)
  rw [this, hs1]
  have e : madeCells (Value.int .u8 0).cells ((n : Int).toNat * 1) = (bv (List.replicate n 0)).toArray := by
    apply Array.toList_inj.1
    rw [show (Value.int .u8 0).cells = #[.int .u8 0] from rfl, toList_madeCells_one]
    simp [bv]
  rw [e]; simp
/-- Bytes laid over bytes. -/
def over (bs : List UInt8) (at_ : Nat) (ys : List UInt8) : List UInt8 := bs.take at_ ++ (ys ++ bs.drop (at_ + ys.length))
theorem over_length (bs : List UInt8) (at_ : Nat) (ys : List UInt8) (h : at_ + ys.length ≤ bs.length) : (over bs at_ ys).length = bs.length := by simp [over]; omega
theorem over_bv (bs : List UInt8) (at_ : Nat) (ys : List UInt8) : splice (bv bs) at_ (bv ys) = bv (over bs at_ ys) := by simp [splice, over, bv]
/-- 'copy': as many as there are of both go over; what is written lies in block b from at_ on. -/
theorem run_copy_bytes (w : World) (ty : TypeId) (A : Option Addr) (dl dc : Nat) (b at_ : Nat) (bs ys : List UInt8) (src : Value) (hb : Blk w b 5 (bv bs).toArray) (hs : Sl w w.heap.size src (bv ys))
    (hA : 0 < min ys.length dl → A = some ⟨b, at_, none⟩) (hfit : at_ + min ys.length dl ≤ bs.length) :
    ∃ w', (Builtin.copy_ #[31, 31] ty #[.slice A dl dc, src]).run Tryd.prog w = .ok (.int .i64 (min ys.length dl : Nat)) w' ∧ Blk w' b 5 (bv (over bs at_ (ys.take dl))).toArray ∧ w.grownBy w' (some b) ∧ w'.heap.size = w.heap.size ∧ w'.drawn = w.drawn := by
  obtain ⟨_, SA, sc, rfl, hsc, hsm, _, hsx⟩ := hs
  obtain ⟨i, hi, hz, hs1, hby⟩ := info_parts Tryd.infoB8
  have hsz : (Tryd.prog.info? 5).map (·.size) = some 1 := by rw [hi]; simp [hs1]
  rw [bv_length]
  by_cases h0 : min ys.length dl = 0
  · refine ⟨w, ?_, ?_, only_refl _ _, rfl, rfl⟩
    · rw [run_copy_none (P := Tryd.prog) w _ _ ty 5 A SA dl dc ys.length sc Tryd.underlying31 hsz h0, h0]; rfl
    · have : ys.take dl = [] := by
        apply List.eq_nil_of_length_eq_zero
        rw [List.length_take, Nat.min_comm]; exact h0
      rw [this]
      simpa [over] using hb
  · have p := Nat.pos_of_ne_zero h0
    have hA' := hA p
    subst hA'
    obtain ⟨sb, so, rfl, hsb, hx⟩ := hsx (by rw [bv_length]; exact Nat.lt_of_lt_of_le p (Nat.min_le_left _ _))
    have hl : (bv (ys.take dl)).length = min ys.length dl := by rw [bv_length, List.length_take, Nat.min_comm]
    have hrun := run_copy_row (P := Tryd.prog) w 31 31 ty 5 b at_ dl dc ⟨sb, so, none⟩ ys.length sc (bv bs).toArray 5 (bv (ys.take dl)) Tryd.underlying31 hsz hb hl (fun j v hj => by
      have : (bv ys)[j]? = some v := by
        have h1 := (List.getElem?_eq_some_iff.1 hj).1
        rw [bv_take] at hj
        rw [List.getElem?_take_of_lt (by rw [hl] at h1; exact Nat.lt_of_lt_of_le h1 (Nat.min_le_right _ _))] at hj
        exact hj
      have := hx j v this
      rw [show (⟨sb, so, none⟩ : Addr).add j = ⟨sb, so + j, none⟩ from by unfold Addr.add; split <;> simp_all]
      exact this) (by rw [hl]; simp [bv_length]; exact hfit) (bv_one _)
    have e : (bv bs).toArray.toList.take at_ ++ bv (ys.take dl) ++ (bv bs).toArray.toList.drop (at_ + (bv (ys.take dl)).length) = bv (over bs at_ (ys.take dl)) := by
      rw [← over_bv]; simp [splice]
    rw [e, hl] at hrun
    exact ⟨_, hrun, setRow_heap w b (bv bs).toArray _ 5 (0, 0) hb, ⟨rfl, rfl, rfl, by simp [World.setRow], fun k _ hk => setRow_other w b k _ (fun e => hk (by rw [e]))⟩, by simp [World.setRow], rfl⟩
end
end Go.Proofs.YtagjmkgbfbaekaaDoor
