/- How a script of calls of the queue is opened. No condition. -/
import Derived.Test.YtagjmkgbfbaekaaDoorOpen2
namespace Go.Proofs.YtagjmkgbfbaekaaDoor
open Go.ChangeShapes Go.WideShapes Go.ChangeAt Go.RowKit Go.Deep
set_option maxRecDepth 100000

/-- A slice of calls: each a kind, a number, bytes. -/
def OpsQ (w : World) (B : Nat) (v : Value) (n : Nat) (K N : Nat → Int) (V : Nat → Value) (ls : Nat → List UInt8) : Prop :=
  SlF w B 3 v n (fun i j => if j = 0 then .int .i64 (K i) else if j = 1 then .int .i64 (N i) else V i) ∧ ∀ i, i < n → Sl w B (V i) (bv (ls i))
instance : Inhabited Value := ⟨.nilIface⟩
set_option linter.unusedVariables false in
theorem open_qops {H : Type} {enc : TypeId × Value → H} {w : World} {base0 : Nat} {v : Value} {d : DataW H} {p : List MemPlace} (h : DataW.Trod enc Tryd.prog w 0 (fun _ => true) true 62 v d p) (hv : Value.okWide Tryd.prog w .any base0 62 v) (_hr : ∀ n ∈ d.weights Tryd.prog 62, decide (n ≤ reachBytes) = true) :
    ∃ x : Nat × (Nat → Int) × (Nat → Int) × (Nat → Value) × (Nat → List UInt8), OpsQ w w.heap.size v x.1 x.2.1 x.2.2.1 x.2.2.2.1 x.2.2.2.2 := by
  obtain ⟨n, V, h1, h2⟩ := open_rows (k := 3) Tryd.underlying62 (by kernel_rfl) (by omega) h hv
  have c3 : Tryd.prog.cellsOf 3 = 1 := by kernel_rfl
  have c31 : Tryd.prog.cellsOf 31 = 1 := by kernel_rfl
  have one : ∀ i, i < n → ∃ x : Int × Int × List UInt8, V i 0 = .int .i64 x.1 ∧ V i 1 = .int .i64 x.2.1 ∧ Sl w w.heap.size (V i 2) (bv x.2.2) := by
    intro i hi
    obtain ⟨f, x, hx⟩ := h2 i hi
    obtain ⟨y0, y1, y2, m, _, _, f0, f1, f2⟩ := trod_struct3 Tryd.underlying66 hx
    simp only [c3, c31] at f0 f1 f2
    have e0 : (((List.range 3).map (V i)).drop 0).take 1 = [V i 0] := rfl
    have e1 : (((List.range 3).map (V i)).drop 1).take 1 = [V i 1] := rfl
    have e2 : (((List.range 3).map (V i)).drop 2).take 1 = [V i 2] := rfl
    rw [e0] at f0
    rw [e1] at f1
    rw [e2] at f2
    obtain ⟨a, ha, _⟩ := DataW.trod_int Tryd.underlying3 f0
    obtain ⟨b, hb, _⟩ := DataW.trod_int Tryd.underlying3 f1
    obtain ⟨bs, hbs⟩ := open_bytes_cell Tryd.underlying31 Tryd.underlying5 (by kernel_rfl) f2
    exact ⟨(a, b, bs), by simpa using ha, by simpa using hb, hbs⟩
  obtain ⟨X, hX⟩ := choose_lt (α := Int × Int × List UInt8) one
  refine ⟨⟨n, fun i => (X i).1, fun i => (X i).2.1, fun i => V i 2, fun i => (X i).2.2⟩, ?_, fun i hi => (hX i hi).2.2⟩
  obtain ⟨A, c, hv, hc, hm, h0, hx⟩ := h1
  refine ⟨A, c, hv, hc, hm, h0, fun hn => ?_⟩
  obtain ⟨b, off, hA, hB, hx⟩ := hx hn
  refine ⟨b, off, hA, hB, fun i j hi hj => (hx i j hi hj).trans ?_⟩
  have : j = 0 ∨ j = 1 ∨ j = 2 := by omega
  rcases this with rfl | rfl | rfl
  · simp [(hX i hi).1]
  · simp [(hX i hi).2.1]
  · simp
end Go.Proofs.YtagjmkgbfbaekaaDoor
