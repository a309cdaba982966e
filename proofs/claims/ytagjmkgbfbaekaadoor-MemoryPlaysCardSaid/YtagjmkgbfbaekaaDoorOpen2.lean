/- How slices of slices and slices of structs are opened into what the walks are told. No condition. -/
import Derived.Test.YtagjmkgbfbaekaaDoorOpen
import Derived.Deep.Strs
namespace Go.Proofs.YtagjmkgbfbaekaaDoor
open Go.ChangeShapes Go.WideShapes Go.ChangeAt Go.RowKit Go.Deep
set_option maxRecDepth 100000

section
variable {H : Type} {enc : TypeId × Value → H} {P : Program} {w : World}
/-- A slice of whole numbers that lies in a cell. -/
theorem open_ints_cell {T e : TypeId} {k : IntKind} {v : Value} {fuel : Nat} {x : DataW H × List MemPlace} (hT : P.underlying T = some (.slice e)) (he : P.underlying e = some (.int k)) (hc : P.cellsOf e = 1)
    (h : DataW.trod enc P w 0 (fun _ => true) true fuel T [v] = some x) : ∃ zs : List Int, Sl w w.heap.size v (zs.map (Value.int k)) ∧ (∀ n ∈ zs, (Lit.int k n).wf = true) := by
  rcases open_ints hT he hc h with ⟨hcs, _⟩ | ⟨a, l, c, zs, hcs, _, hl, hm, hz, _, hcell, hwz⟩
  · simp at hcs
    subst hcs
    exact ⟨[], Sl.nil_ _ _, by simp⟩
  · simp at hcs
    subst hcs
    have hz' : zs.length = c := by simpa using hz
    have hlen : (zs.take l).length = l := by simp; omega
    refine ⟨zs.take l, ?_, fun n hn => hwz n (List.mem_of_mem_take hn)⟩
    show SlN _ _ _ _ _ _
    rw [List.length_map, hlen]
    refine ⟨by simp; omega, some a, c, rfl, hl, hm, (fun h => by cases h), fun hp => ?_⟩
    obtain ⟨b, off, spot⟩ := a
    have h0 := hcell 0 (by omega)
    have hs : spot = none := by simpa [Addr.add] using World.cell?_spot h0
    subst hs
    have hlt := World.block_lt_of_cell? _ _ h0
    refine ⟨b, off, rfl, by simpa [Addr.add] using hlt, fun j u hu => ?_⟩
    have hj : j < l := by
      have := (List.getElem?_eq_some_iff.1 hu).1
      simp at this
      omega
    have := hcell j (by omega)
    rw [List.getElem?_map, List.getElem?_take_of_lt hj, List.getElem?_eq_getElem (by omega)] at hu
    simp only [Option.map_some, Option.some.injEq] at hu
    subst hu
    rw [List.getD_eq_getElem?_getD, List.getElem?_eq_getElem (by omega)] at this
    rw [add_plain] at this
    simpa using this
/-- Bytes that lie in a cell. -/
theorem open_bytes_cell {T e : TypeId} {v : Value} {fuel : Nat} {x : DataW H × List MemPlace} (hT : P.underlying T = some (.slice e)) (he : P.underlying e = some (.int .u8)) (hc : P.cellsOf e = 1)
    (h : DataW.trod enc P w 0 (fun _ => true) true fuel T [v] = some x) : ∃ bs : List UInt8, Sl w w.heap.size v (bv bs) := by
  obtain ⟨zs, h1, h2⟩ := open_ints_cell hT he hc h
  obtain ⟨bs, h4, _⟩ := bytes_of_ints h1 h2
  exact ⟨bs, h4⟩

/-- A slice that lies in memory: the value of its cell j. -/
def SlF (w : World) (B k : Nat) (v : Value) (n : Nat) (V : Nat → Nat → Value) : Prop :=
  ∃ A c, v = .slice A n c ∧ n ≤ c ∧ c ≤ maxLen ∧ (A = none → c = 0) ∧ (0 < n → ∃ b off, A = some ⟨b, off, none⟩ ∧ b < B ∧ ∀ i j, i < n → j < k → w.cell? ⟨b, off + (i * k + j), none⟩ = some (V i j))

/-- A slice whose elements are of k cells each. -/
theorem open_rows {T e : TypeId} {k : Nat} {v : Value} {d : DataW H} {p : List MemPlace} {base0 : Nat} (hT : P.underlying T = some (.slice e)) (hc : P.cellsOf e = k) (hk : 0 < k)
    (h : DataW.Trod enc P w 0 (fun _ => true) true T v d p) (hv : Value.okWide P w .any base0 T v) :
    ∃ n V, SlF w w.heap.size k v n V ∧ ∀ i, i < n → ∃ fuel x, DataW.trod enc P w 0 (fun _ => true) true fuel e ((List.range k).map (V i)) = some x := by
  obtain ⟨a0, len0, cap0, rfl⟩ := okWide_slice hT hv
  obtain ⟨fuel, hf⟩ := h
  rcases open_slice hT hf with ⟨hcs, _⟩ | ⟨a, len, cap, m, n, D, Pl, hcs, _, hl, hm, hmm, _, hx⟩
  · simp [Value.cells] at hcs
    obtain ⟨rfl, rfl, rfl⟩ := hcs
    exact ⟨0, fun _ _ => .nilIface, ⟨none, 0, rfl, Nat.le_refl _, by simp, fun _ => rfl, fun h => absurd h (Nat.lt_irrefl _)⟩, fun i hi => absurd hi (Nat.not_lt_zero _)⟩
  · simp [Value.cells] at hcs
    obtain ⟨rfl, rfl, rfl⟩ := hcs
    simp at hmm
    subst hmm
    rw [hc] at hx
    obtain ⟨C, hC⟩ := choose_lt (α := List Value) (p := fun i cs' => w.cells? 0 (a.add (i * k)) k = some cs' ∧ DataW.trod enc P w 0 (fun _ => true) true n e cs' = some (D i, Pl i)) hx
    refine ⟨len0, fun i j => (C i).getD j .nilIface, ⟨some a, m, rfl, hl, hm, (fun h => by cases h), fun hp => ?_⟩, fun i hi => ⟨n, (D i, Pl i), ?_⟩⟩
    · obtain ⟨b, off, spot⟩ := a
      have cell : ∀ i j, i < len0 → j < k → w.cell? ((⟨b, off, spot⟩ : Addr).add (i * k + j)) = some ((C i).getD j .nilIface) := by
        intro i j hi hj
        obtain ⟨h1, _⟩ := hC i (by omega)
        obtain ⟨_, h3, h4⟩ := World.cells?_some h1
        have := h4 j hj
        rw [add_add] at this
        rw [this, List.getD_eq_getElem?_getD, List.getElem?_eq_getElem (by omega)]
        rfl
      have h0 := cell 0 0 hp hk
      have hs : spot = none := by simpa [Addr.add] using World.cell?_spot h0
      subst hs
      refine ⟨b, off, rfl, by simpa [Addr.add] using World.block_lt_of_cell? _ _ h0, fun i j hi hj => ?_⟩
      have := cell i j hi hj
      rwa [add_plain] at this
    · obtain ⟨h1, h2⟩ := hC i (by omega)
      obtain ⟨_, h3, _⟩ := World.cells?_some h1
      have : (List.range k).map (fun j => (C i).getD j .nilIface) = C i := by
        apply List.ext_getElem?
        intro j
        by_cases hj : j < k
        · simp [hj, List.getElem?_eq_getElem (show j < (C i).length by omega)]
        · simp [hj, List.getElem?_eq_none (show (C i).length ≤ j by omega)]
      rw [this]
      exact h2
end
theorem SlF.below {w w' : World} {B k n : Nat} {v : Value} {V : Nat → Nat → Value} (h : SlF w B k v n V) (hb : Below B w w') : SlF w' B k v n V := by
  obtain ⟨A, c, hv, hc, hm, h0, hx⟩ := h
  refine ⟨A, c, hv, hc, hm, h0, fun hn => ?_⟩
  obtain ⟨b, off, hA, hB, hx⟩ := hx hn
  exact ⟨b, off, hA, hB, fun i j hi hj => (hb.cell (p := ⟨b, off + (i * k + j), none⟩) hB).trans (hx i j hi hj)⟩

/-- A slice of slices of bytes, as a walk is told of it. -/
def SlB (w : World) (B : Nat) (v : Value) (n : Nat) (V : Nat → Value) (ls : Nat → List UInt8) : Prop :=
  SlF w B 1 v n (fun i _ => V i) ∧ ∀ i, i < n → Sl w B (V i) (bv (ls i))
theorem SlB.below {w w' : World} {B n : Nat} {v : Value} {V : Nat → Value} {ls : Nat → List UInt8} (h : SlB w B v n V ls) (hb : Below B w w') : SlB w' B v n V ls :=
  ⟨h.1.below hb, fun i hi => (h.2 i hi).below hb⟩
theorem open_bytess {H : Type} {enc : TypeId × Value → H} {w : World} {base0 : Nat} {v : Value} {d : DataW H} {p : List MemPlace} (h : DataW.Trod enc Tryd.prog w 0 (fun _ => true) true 53 v d p) (hv : Value.okWide Tryd.prog w .any base0 53 v) (_hr : ∀ n ∈ d.weights Tryd.prog 53, decide (n ≤ reachBytes) = true) :
    ∃ x : Nat × (Nat → Value) × (Nat → List UInt8), SlB w w.heap.size v x.1 x.2.1 x.2.2 := by
  obtain ⟨n, V, h1, h2⟩ := open_rows (k := 1) Tryd.underlying53 (by kernel_rfl) (by omega) h hv
  obtain ⟨ls, hls⟩ := choose_lt (α := List UInt8) (n := n) (p := fun i bs => Sl w w.heap.size (V i 0) (bv bs)) (fun i hi => by
    obtain ⟨f, x, hx⟩ := h2 i hi
    exact open_bytes_cell Tryd.underlying31 Tryd.underlying5 (by kernel_rfl) (by simpa using hx))
  refine ⟨⟨n, fun i => V i 0, ls⟩, ?_, hls⟩
  obtain ⟨A, c, hv, hc, hm, h0, hx⟩ := h1
  refine ⟨A, c, hv, hc, hm, h0, fun hn => ?_⟩
  obtain ⟨b, off, hA, hB, hx⟩ := hx hn
  refine ⟨b, off, hA, hB, fun i j hi hj => ?_⟩
  obtain rfl : j = 0 := by omega
  exact hx i 0 hi hj
end Go.Proofs.YtagjmkgbfbaekaaDoor
