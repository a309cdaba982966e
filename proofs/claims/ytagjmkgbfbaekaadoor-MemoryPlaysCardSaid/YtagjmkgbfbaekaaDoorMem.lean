/- Memories by their keys: how they lie, what the map's operations, 'make' and 'copy' do to them. No condition. -/
import Derived.Test.YtagjmkgbfbaekaaDoorBase
import Derived.Test.YtagjmkgbfbaekaaDoorChecked
import Derived.Laws.CopyOwn
import Derived.Laws.OwnMore
namespace Go.Proofs.YtagjmkgbfbaekaaDoor
open Go.RowKit
set_option maxRecDepth 100000

/-- A key, its block, its bytes. -/
abbrev Ent := Int × Nat × List UInt8
def entV (x : Ent) : Value := .slice (some ⟨x.2.1, 0, none⟩) x.2.2.length x.2.2.length
def entE (x : Ent) : Value × Value := (.int .i64 x.1, entV x)
/-- Where a key stands, its block, its bytes. -/
def look : List Ent → Int → Option (Nat × Nat × List UInt8)
  | [], _ => none
  | x :: l, k => if k = x.1 then some (0, x.2) else (look l k).map fun r => (r.1 + 1, r.2)
def put : List Ent → Int → Nat × List UInt8 → List Ent
  | [], k, y => [(k, y)]
  | x :: l, k, y => if k = x.1 then (k, y) :: l else x :: put l k y
/-- What a key has. -/
def has (L : List Ent) (k : Int) : Option (List UInt8) := (look L k).map fun r => r.2.2

theorem look_put (k : Int) (y : Nat × List UInt8) : ∀ L : List Ent, ∃ j, look (put L k y) k = some (j, y)
  | [] => ⟨0, by simp [put, look]⟩
  | x :: l => by
    by_cases h : k = x.1
    · exact ⟨0, by simp [put, look, h]⟩
    · obtain ⟨j, hj⟩ := look_put k y l
      exact ⟨j + 1, by simp [put, look, h, hj]⟩
theorem has_put (L : List Ent) (k : Int) (y : Nat × List UInt8) : has (put L k y) k = some y.2 := by
  obtain ⟨j, hj⟩ := look_put k y L
  simp [has, hj]
theorem has_put_ne (k q : Int) (y : Nat × List UInt8) (hq : q ≠ k) : ∀ L : List Ent, has (put L k y) q = has L q
  | [] => by simp [put, has, look, hq]
  | x :: l => by
    have ih := has_put_ne k q y hq l
    by_cases h : k = x.1
    · have hx : q ≠ x.1 := by rw [← h]; exact hq
      simp [put, h, has, look, hx]
    · by_cases hx : q = x.1
      · simp [put, h, has, look, hx]
      · simp only [has] at ih
        simp only [put, h, has, look, hx, if_false, Option.map_map]
        have e : ((fun r : Nat × Nat × List UInt8 => r.2.2) ∘ fun r : Nat × Nat × List UInt8 => (r.1 + 1, r.2)) = fun r => r.2.2 := rfl
        rw [e]; exact ih
theorem look_mem : ∀ (L : List Ent) (k : Int) (j b : Nat) (bs : List UInt8), look L k = some (j, b, bs) → (k, b, bs) ∈ L ∧ L[j]? = some (k, b, bs)
  | [], _, _, _, _, h => by simp [look] at h
  | x :: l, k, j, b, bs, h => by
    by_cases hk : k = x.1
    · simp [look, hk] at h
      obtain ⟨rfl, h⟩ := h
      have : x = (k, b, bs) := by rw [hk, ← h]
      simp [this]
    · simp only [look, hk, if_false, Option.map_eq_some_iff] at h
      obtain ⟨⟨j', b', bs'⟩, h1, h2⟩ := h
      simp only [Prod.mk.injEq] at h2
      obtain ⟨rfl, rfl, rfl⟩ := h2
      obtain ⟨m1, m2⟩ := look_mem l k j' b' bs' h1
      exact ⟨List.mem_cons_of_mem _ m1, by simpa using m2⟩
theorem mem_put : ∀ (L : List Ent) (k : Int) (y : Nat × List UInt8) (x : Ent), x ∈ put L k y → x ∈ L ∨ x = (k, y)
  | [], k, y, x, h => by simp [put] at h; exact .inr h
  | z :: l, k, y, x, h => by
    by_cases hk : k = z.1
    · simp only [put, hk, if_true, List.mem_cons] at h
      rcases h with h | h
      · exact .inr (by rw [h, hk])
      · exact .inl (List.mem_cons_of_mem _ h)
    · simp only [put, hk, if_false, List.mem_cons] at h
      rcases h with h | h
      · exact .inl (by rw [h]; exact List.mem_cons_self)
      · rcases mem_put l k y x h with h | h
        · exact .inl (List.mem_cons_of_mem _ h)
        · exact .inr h
theorem put_look : ∀ (L : List Ent) (k : Int) (y : Nat × List UInt8), (look L k = none ∧ put L k y = L ++ [(k, y)]) ∨ ∃ j b bs, look L k = some (j, b, bs) ∧ put L k y = L.set j (k, y) ∧ j < L.length
  | [], k, y => .inl ⟨rfl, rfl⟩
  | z :: l, k, y => by
    by_cases hk : k = z.1
    · exact .inr ⟨0, z.2.1, z.2.2, by simp [look, hk], by simp [put, hk], by simp⟩
    · rcases put_look l k y with ⟨h1, h2⟩ | ⟨j, b, bs, h1, h2, h3⟩
      · exact .inl ⟨by simp [look, hk, h1], by simp [put, hk, h2]⟩
      · exact .inr ⟨j + 1, b, bs, by simp [look, hk, h1], by simp [put, hk, h2], by simpa using h3⟩

theorem findNow_spec (k : Int) : ∀ (es : List MapEntry) (L : List Ent) (i : Nat), es.map (fun e => (e.key, e.val)) = L.map entE →
    Instr.findNow (.int .i64) (.int .i64 k) es i = some ((look L k).map fun r => (i + r.1, .slice (some ⟨r.2.1, 0, none⟩) r.2.2.length r.2.2.length))
  | [], L, i, h => by
    have : L = [] := by cases L <;> simp_all
    subst this; rfl
  | e :: es, [], i, h => by simp at h
  | e :: es, x :: l, i, h => by
    simp only [List.map_cons, List.cons.injEq, Prod.mk.injEq, entE] at h
    obtain ⟨⟨h1, h2⟩, h3⟩ := h
    have ih := findNow_spec k es l (i + 1) h3
    unfold Instr.findNow
    rw [h1, h2]
    by_cases hk : k = x.1
    · simp [Instr.sameNow, look, hk, entV]
    · have hb : (k == x.1) = false := by simpa using hk
      simp only [Instr.sameNow, if_true, hb, look, hk, if_false]
      rw [ih]
      cases look l k with
      | none => rfl
      | some r => simp; omega

/-- Memories: block g the struct, block m the map, a block each; all from B on. -/
structure MemIs (w : World) (B g m : Nat) (L : List Ent) : Prop where
  box : Blk w g 84 #[.map (some m)]
  map : ∃ es c, w.heap[m]? = some (.map es c) ∧ es.toList.map (fun e => (e.key, e.val)) = L.map entE
  row : ∀ x ∈ L, Blk w x.2.1 5 (bv x.2.2).toArray
  low : B ≤ g ∧ B ≤ m ∧ ∀ x ∈ L, B ≤ x.2.1
  dis : (L.map (·.2.1)).Nodup
/-- A block that is none of the memories'. -/
def Off (x m : Nat) (L : List Ent) : Prop := x ≠ m ∧ ∀ e ∈ L, e.2.1 ≠ x
/-- What a call leaves. -/
structure MStep (w w' : World) (m : Nat) (L L' : List Ent) : Prop where
  os : w'.os = w.os
  tape : w'.tape = w.tape
  output : w'.output = w.output
  size : w.heap.size ≤ w'.heap.size
  keep : ∀ x, x < w.heap.size → Off x m L → w'.heap[x]? = w.heap[x]? ∧ Off x m L'

section
variable {w w' w'' : World} {B g m : Nat} {L L' L'' : List Ent}
theorem MemIs.mlt (h : MemIs w B g m L) : m < w.heap.size := by
  obtain ⟨es, c, h1, _⟩ := h.map
  exact (Array.getElem?_eq_some_iff.1 h1).1
theorem MemIs.gm (h : MemIs w B g m L) : g ≠ m := by
  rintro rfl
  obtain ⟨es, c, h1, _⟩ := h.map
  have := h.box
  unfold Blk at this
  rw [h1] at this
  cases this
theorem MemIs.bm (h : MemIs w B g m L) {x : Ent} (hx : x ∈ L) : x.2.1 ≠ m := by
  rintro rfl
  obtain ⟨es, c, h1, _⟩ := h.map
  have := h.row x hx
  unfold Blk at this
  rw [h1] at this
  cases this
theorem MemIs.bg (h : MemIs w B g m L) {x : Ent} (hx : x ∈ L) : x.2.1 ≠ g := by
  rintro rfl
  have h1 := h.row x hx
  have h2 := h.box
  unfold Blk at h1 h2
  rw [h1] at h2
  simp only [Option.some.injEq, Obj.cells.injEq] at h2
  have h3 := h2.1
  have h4 := congrArg Array.toList h3
  simp [bv] at h4
theorem MemIs.off (h : MemIs w B g m L) {x : Nat} (hx : x < B) : Off x m L := ⟨by have := h.low.2.1; omega, fun e he => by have := h.low.2.2 e he; omega⟩
theorem MemIs.offg (h : MemIs w B g m L) : Off g m L := ⟨h.gm, fun _ he => h.bg he⟩
theorem MemIs.below (h : MemIs w B g m L) (hb : Below w.heap.size w w') : MemIs w' B g m L := by
  obtain ⟨es, c, h1, h2⟩ := h.map
  exact ⟨h.box.below hb h.box.lt, ⟨es, c, (hb.block m h.mlt).trans h1, h2⟩, fun x hx => (h.row x hx).below hb (h.row x hx).lt, h.low, h.dis⟩
theorem MStep.refl (w : World) (m : Nat) (L : List Ent) : MStep w w m L L := ⟨rfl, rfl, rfl, Nat.le_refl _, fun _ _ h => ⟨rfl, h⟩⟩
theorem MStep.of_below (hb : Below w.heap.size w w') (m : Nat) (L : List Ent) : MStep w w' m L L := ⟨hb.os, hb.tape, hb.output, hb.size, fun x hx h => ⟨hb.block x hx, h⟩⟩
theorem MStep.trans (h : MStep w w' m L L') (k : MStep w' w'' m L' L'') : MStep w w'' m L L'' :=
  ⟨k.os.trans h.os, k.tape.trans h.tape, k.output.trans h.output, Nat.le_trans h.size k.size, fun x hx ho => by
    obtain ⟨h1, h2⟩ := h.keep x hx ho
    obtain ⟨k1, k2⟩ := k.keep x (Nat.lt_of_lt_of_le hx h.size) h2
    exact ⟨k1.trans h1, k2⟩⟩
theorem MStep.below (h : MStep w w' m L L') (hm : MemIs w B g m L) {w0 : World} (hb : Below B w0 w) (hB : B ≤ w.heap.size) : Below B w0 w' :=
  hb.trans ⟨h.os, h.tape, h.output, h.size, fun x hx => (h.keep x (by omega) (hm.off hx)).1⟩
theorem MStep.blk (h : MStep w w' m L L') {x : Nat} {t : TypeId} {cs : Array Value} (hk : Blk w x t cs) (ho : Off x m L) : Blk w' x t cs := (h.keep x hk.lt ho).1.trans hk
end
end Go.Proofs.YtagjmkgbfbaekaaDoor
