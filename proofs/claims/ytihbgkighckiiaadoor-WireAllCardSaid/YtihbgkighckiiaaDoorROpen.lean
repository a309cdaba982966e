/- How slices of messages and of arguments are opened. No condition. -/
import Derived.Test.YtihbgkighckiiaaDoorOpen3
import Derived.Test.YtihbgkighckiiaaDoorCheck
namespace Go.Proofs.YtihbgkighckiiaaDoor
open Go.ChangeShapes Go.WideShapes Go.ChangeAt Go.RowKit Go.Deep
set_option maxRecDepth 100000

theorem rows3_cells {w : World} {B n : Nat} {v : Value} {V : Nat → Nat → Value} {xs : List Value} (h : SlF w B 3 v n V) (hl : xs.length = n * 3) (hx : ∀ i j, i < n → j < 3 → xs[i * 3 + j]? = some (V i j)) : SlN w B 3 v n xs := by
  obtain ⟨A, c, hv, hc, hm, h0, hcell⟩ := h
  refine ⟨hl, A, c, hv, hc, hm, h0, fun hn => ?_⟩
  obtain ⟨b, off, hA, hB, hcell⟩ := hcell hn
  refine ⟨b, off, hA, hB, fun j u hu => ?_⟩
  have hj : j < n * 3 := by rw [← hl]; exact (List.getElem?_eq_some_iff.1 hu).1
  have h1 := hx (j / 3) (j % 3) (by omega) (by omega)
  have h2 := hcell (j / 3) (j % 3) (by omega) (by omega)
  rw [show j / 3 * 3 + j % 3 = j by omega] at h1 h2
  rw [h1] at hu
  rw [← Option.some.inj hu]
  exact h2
theorem flat3_at {α : Type} (f : α → List Value) (hf : ∀ x, (f x).length = 3) : ∀ (l : List α) (i j : Nat) (h : i < l.length), j < 3 → (l.flatMap f)[i * 3 + j]? = (f l[i])[j]?
  | [], i, j, h, _ => by simp at h
  | x :: l, i, j, h, hj => by
    rw [List.flatMap_cons]
    rcases i with _ | i
    · rw [List.getElem?_append_left (by rw [hf]; omega)]; simp
    · rw [List.getElem?_append_right (by rw [hf]; omega), hf, show (i + 1) * 3 + j - 3 = i * 3 + j by omega]
      exact flat3_at f hf l i j (by simpa using h) hj
theorem flat3_length {α : Type} (f : α → List Value) (hf : ∀ x, (f x).length = 3) (l : List α) : (l.flatMap f).length = l.length * 3 := by
  induction l with
  | nil => rfl
  | cons x l ih => rw [List.flatMap_cons, List.length_append, hf, ih, List.length_cons]; omega
/-- Messages as a slice's cells. -/
def RawsIs (w : World) (v : Value) (l : List (Int × Int × ByteArray)) : Prop := SlN w w.heap.size 3 v l.length (l.flatMap fun x => [.int .i64 x.1, .int .i64 x.2.1, .string x.2.2])
theorem open_raws {H : Type} {enc : TypeId × Value → H} {w : World} {base0 : Nat} {v : Value} {d : DataW H} {p : List MemPlace} (h : DataW.Trod enc Tryd.prog w 0 (fun _ => true) true 69 v d p) (hv : Value.okWide Tryd.prog w .any base0 69 v) (_hr : ∀ n ∈ d.weights Tryd.prog 69, decide (n ≤ reachBytes) = true) :
    ∃ l : List (Int × Int × ByteArray), RawsIs w v l := by
  obtain ⟨n, V, h1, h2⟩ := open_rows (k := 3) Tryd.underlying69 (by kernel_rfl) (by omega) h hv
  have c3 : Tryd.prog.cellsOf 3 = 1 := by kernel_rfl
  have c31 : Tryd.prog.cellsOf 9 = 1 := by kernel_rfl
  have one : ∀ i, i < n → ∃ x : Int × Int × ByteArray, V i 0 = .int .i64 x.1 ∧ V i 1 = .int .i64 x.2.1 ∧ V i 2 = .string x.2.2 := by
    intro i hi
    obtain ⟨f, x, hx⟩ := h2 i hi
    obtain ⟨y0, y1, y2, m, _, _, f0, f1, f2⟩ := trod_struct3 Tryd.underlying50 hx
    simp only [c3, c31] at f0 f1 f2
    have e0 : (((List.range 3).map (V i)).drop 0).take 1 = [V i 0] := rfl
    have e1 : (((List.range 3).map (V i)).drop 1).take 1 = [V i 1] := rfl
    have e2 : (((List.range 3).map (V i)).drop 2).take 1 = [V i 2] := rfl
    rw [e0] at f0
    rw [e1] at f1
    rw [e2] at f2
    obtain ⟨a, ha, _⟩ := DataW.trod_int Tryd.underlying3 f0
    obtain ⟨b, hb, _⟩ := DataW.trod_int Tryd.underlying3 f1
    obtain ⟨s, hs, _⟩ := DataW.trod_string Tryd.underlying9 f2
    exact ⟨(a, b, s), by simpa using ha, by simpa using hb, by simpa using hs⟩
  obtain ⟨X, hX⟩ := choose_lt (α := Int × Int × ByteArray) one
  refine ⟨(List.range n).map X, ?_⟩
  unfold RawsIs
  rw [List.length_map, List.length_range]
  refine rows3_cells h1 ?_ fun i j hi hj => ?_
  · rw [flat3_length _ (fun _ => rfl)]; simp
  · rw [flat3_at _ (fun _ => rfl) _ i j (by simpa using hi) hj]
    simp only [List.getElem_map, List.getElem_range]
    obtain ⟨x0, x1, x2⟩ := hX i hi
    have : j = 0 ∨ j = 1 ∨ j = 2 := by omega
    rcases this with rfl | rfl | rfl
    · simp [x0]
    · simp [x1]
    · simp [x2]
end Go.Proofs.YtihbgkighckiiaaDoor
