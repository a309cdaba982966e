/- How messages are opened. No condition. -/
import Derived.Test.YtihbgkighckiiaaDoorROpen
namespace Go.Proofs.YtihbgkighckiiaaDoor
open Go.ChangeShapes Go.WideShapes Go.ChangeAt Go.RowKit Go.Deep
set_option maxRecDepth 100000

section
variable {H : Type} {enc : TypeId × Value → H} {P : Program} {w : World}
/-- A slice that lies in a cell, whose elements are of k cells each. -/
theorem open_rows_cell {T e : TypeId} {k : Nat} {v : Value} {fuel : Nat} {x : DataW H × List MemPlace} (hT : P.underlying T = some (.slice e)) (hc : P.cellsOf e = k) (hk : 0 < k)
    (h : DataW.trod enc P w 0 (fun _ => true) true fuel T [v] = some x) :
    ∃ n V, SlF w w.heap.size k v n V ∧ ∀ i, i < n → ∃ fuel x, DataW.trod enc P w 0 (fun _ => true) true fuel e ((List.range k).map (V i)) = some x := by
  rcases open_slice hT h with ⟨hcs, _⟩ | ⟨a, len, cap, m, n, D, Pl, hcs, _, hl, hm, hmm, _, hx⟩
  · simp at hcs
    subst hcs
    exact ⟨0, fun _ _ => .nilIface, ⟨none, 0, rfl, Nat.le_refl _, by simp, fun _ => rfl, fun h => absurd h (Nat.lt_irrefl _)⟩, fun i hi => absurd hi (Nat.not_lt_zero _)⟩
  · simp at hcs
    subst hcs
    simp at hmm
    subst hmm
    rw [hc] at hx
    obtain ⟨C, hC⟩ := choose_lt (α := List Value) (p := fun i cs' => w.cells? 0 (a.add (i * k)) k = some cs' ∧ DataW.trod enc P w 0 (fun _ => true) true n e cs' = some (D i, Pl i)) hx
    refine ⟨len, fun i j => (C i).getD j .nilIface, ⟨some a, m, rfl, hl, hm, (fun h => by cases h), fun hp => ?_⟩, fun i hi => ⟨n, (D i, Pl i), ?_⟩⟩
    · obtain ⟨b, off, spot⟩ := a
      have cell : ∀ i j, i < len → j < k → w.cell? ((⟨b, off, spot⟩ : Addr).add (i * k + j)) = some ((C i).getD j .nilIface) := by
        intro i j hi hj
        obtain ⟨h1, _⟩ := hC i (by omega)
        obtain ⟨_, h3, h4⟩ := World.cells?_some h1
        have := h4 j hj
        rw [add_add] at this
        rw [this, List.getD_eq_getElem?_getD, List.getElem?_eq_getElem (by omega)]
        rfl
      have h0 := cell 0 0 hp hk
      have hs : spot = none := by simpa [Addr.add] using World.cell?_spot h0
      subst hs
      refine ⟨b, off, rfl, by simpa [Addr.add] using World.block_lt_of_cell? _ _ h0, fun i j hi hj => ?_⟩
      have := cell i j hi hj
      rwa [add_plain] at this
    · obtain ⟨h1, h2⟩ := hC i (by omega)
      obtain ⟨_, h3, _⟩ := World.cells?_some h1
      have : (List.range k).map (fun j => (C i).getD j .nilIface) = C i := by
        apply List.ext_getElem?
        intro j
        by_cases hj : j < k
        · simp [hj, List.getElem?_eq_getElem (show j < (C i).length by omega)]
        · simp [hj, List.getElem?_eq_none (show (C i).length ≤ j by omega)]
      rw [this]
      exact h2
end
theorem open_args {H : Type} {enc : TypeId × Value → H} {w : World} {v : Value} {fuel : Nat} {x : DataW H × List MemPlace} (h : DataW.trod enc Tryd.prog w 0 (fun _ => true) true fuel 27 [v] = some x) : ∃ l : List ArgD, ArgsIs w v l := by
  obtain ⟨n, V, h1, h2⟩ := open_rows_cell (k := 3) Tryd.underlying27 (by kernel_rfl) (by omega) h
  have c1 : Tryd.prog.cellsOf 5 = 1 := by kernel_rfl
  have c3 : Tryd.prog.cellsOf 3 = 1 := by kernel_rfl
  have c31 : Tryd.prog.cellsOf 9 = 1 := by kernel_rfl
  have one : ∀ i, i < n → ∃ x : Int × Int × ByteArray, V i 0 = .int .u8 x.1 ∧ V i 1 = .int .i64 x.2.1 ∧ V i 2 = .string x.2.2 := by
    intro i hi
    obtain ⟨f, x, hx⟩ := h2 i hi
    obtain ⟨y0, y1, y2, m, _, _, f0, f1, f2⟩ := trod_struct3 Tryd.underlying26 hx
    simp only [c1, c3, c31] at f0 f1 f2
    have e0 : (((List.range 3).map (V i)).drop 0).take 1 = [V i 0] := rfl
    have e1 : (((List.range 3).map (V i)).drop 1).take 1 = [V i 1] := rfl
    have e2 : (((List.range 3).map (V i)).drop 2).take 1 = [V i 2] := rfl
    rw [e0] at f0
    rw [e1] at f1
    rw [e2] at f2
    obtain ⟨a, ha, _⟩ := DataW.trod_int Tryd.underlying5 f0
    obtain ⟨b, hb, _⟩ := DataW.trod_int Tryd.underlying3 f1
    obtain ⟨s, hs, _⟩ := DataW.trod_string Tryd.underlying9 f2
    exact ⟨(a, b, s), by simpa using ha, by simpa using hb, by simpa using hs⟩
  obtain ⟨X, hX⟩ := choose_lt (α := Int × Int × ByteArray) one
  refine ⟨(List.range n).map X, ?_⟩
  unfold ArgsIs argCells
  rw [List.length_map, List.length_range]
  refine rows3_cells h1 ?_ fun i j hi hj => ?_
  · rw [flat3_length _ (fun _ => rfl)]; simp
  · rw [flat3_at _ (fun _ => rfl) _ i j (by simpa using hi) hj]
    simp only [List.getElem_map, List.getElem_range]
    obtain ⟨x0, x1, x2⟩ := hX i hi
    have : j = 0 ∨ j = 1 ∨ j = 2 := by omega
    rcases this with rfl | rfl | rfl
    · simp [x0]
    · simp [x1]
    · simp [x2]
theorem agg3 {cs : Array Value} (h : cs.size = 3) : ∃ a b c, cs = #[a, b, c] := by
  obtain ⟨l⟩ := cs
  match l, h with
  | [a, b, c], _ => exact ⟨a, b, c, rfl⟩
theorem open_msg {H : Type} {enc : TypeId × Value → H} {w : World} {base0 : Nat} {v : Value} {d : DataW H} {p : List MemPlace} (h : DataW.Trod enc Tryd.prog w 0 (fun _ => true) true 29 v d p) (hv : Value.okWide Tryd.prog w .any base0 29 v) (_hr : ∀ n ∈ d.weights Tryd.prog 29, decide (n ≤ reachBytes) = true) :
    ∃ x : Int × Int × Value × List ArgD, v = .agg #[.int .i64 x.1, .int .i64 x.2.1, x.2.2.1] ∧ ArgsIs w x.2.2.1 x.2.2.2 := by
  obtain ⟨cs, rfl, hsz⟩ := okWide_struct Tryd.underlying29 hv
  have cm : Tryd.prog.cellsOf 29 = 3 := by kernel_rfl
  rw [cm] at hsz
  obtain ⟨a, b, c, rfl⟩ := agg3 hsz
  obtain ⟨fuel, hf⟩ := h
  obtain ⟨y0, y1, y2, m, _, _, f0, f1, f2⟩ := trod_struct3 Tryd.underlying29 hf
  have c3 : Tryd.prog.cellsOf 3 = 1 := by kernel_rfl
  have c27 : Tryd.prog.cellsOf 27 = 1 := by kernel_rfl
  simp only [c3, c27] at f0 f1 f2
  obtain ⟨z, hz, _⟩ := DataW.trod_int Tryd.underlying3 (show DataW.trod enc Tryd.prog w 0 (fun _ => true) true m 3 [a] = some y0 from f0)
  obtain ⟨z2, hz2, _⟩ := DataW.trod_int Tryd.underlying3 (show DataW.trod enc Tryd.prog w 0 (fun _ => true) true m 3 [b] = some y1 from f1)
  obtain ⟨l, hl⟩ := open_args (show DataW.trod enc Tryd.prog w 0 (fun _ => true) true m 27 [c] = some y2 from f2)
  simp at hz hz2
  subst hz
  subst hz2
  exact ⟨(z, z2, c, l), rfl, hl⟩
theorem open_raw1 {H : Type} {enc : TypeId × Value → H} {w : World} {base0 : Nat} {v : Value} {d : DataW H} {p : List MemPlace} (h : DataW.Trod enc Tryd.prog w 0 (fun _ => true) true 50 v d p) (hv : Value.okWide Tryd.prog w .any base0 50 v) (_hr : ∀ n ∈ d.weights Tryd.prog 50, decide (n ≤ reachBytes) = true) :
    ∃ x : Int × Int × ByteArray, v = .agg #[.int .i64 x.1, .int .i64 x.2.1, .string x.2.2] := by
  obtain ⟨cs, rfl, hsz⟩ := okWide_struct Tryd.underlying50 hv
  have cm : Tryd.prog.cellsOf 50 = 3 := by kernel_rfl
  rw [cm] at hsz
  obtain ⟨a, b, c, rfl⟩ := agg3 hsz
  obtain ⟨fuel, hf⟩ := h
  obtain ⟨y0, y1, y2, m, _, _, f0, f1, f2⟩ := trod_struct3 Tryd.underlying50 hf
  have c3 : Tryd.prog.cellsOf 3 = 1 := by kernel_rfl
  have c27 : Tryd.prog.cellsOf 9 = 1 := by kernel_rfl
  simp only [c3, c27] at f0 f1 f2
  obtain ⟨z, hz, _⟩ := DataW.trod_int Tryd.underlying3 (show DataW.trod enc Tryd.prog w 0 (fun _ => true) true m 3 [a] = some y0 from f0)
  obtain ⟨z2, hz2, _⟩ := DataW.trod_int Tryd.underlying3 (show DataW.trod enc Tryd.prog w 0 (fun _ => true) true m 3 [b] = some y1 from f1)
  obtain ⟨s, hs, _⟩ := DataW.trod_string Tryd.underlying9 (show DataW.trod enc Tryd.prog w 0 (fun _ => true) true m 9 [c] = some y2 from f2)
  simp at hz hz2 hs
  subst hz
  subst hz2
  subst hs
  exact ⟨(z, z2, s), rfl⟩
end Go.Proofs.YtihbgkighckiiaaDoor
