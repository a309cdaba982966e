/- How a script of calls of the memories is opened. No condition. -/
import Derived.Test.YtagjmkgbfbaekaaDoorOpen2
namespace Go.Proofs.YtagjmkgbfbaekaaDoor
open Go.ChangeShapes Go.WideShapes Go.ChangeAt Go.RowKit Go.Deep
set_option maxRecDepth 100000

section
variable {H : Type} {enc : TypeId × Value → H} {P : Program} {w : World} {base : Nat} {spare : MemPlace → Bool} {held : Bool}
theorem trod_struct5 {t : TypeId} {f0 f1 f2 f3 f4 : Field} {fuel : Nat} {cs : List Value} {x : DataW H × List MemPlace} (ht : P.underlying t = some (.struct #[f0, f1, f2, f3, f4])) (h : DataW.trod enc P w 0 (fun _ => true) true fuel t cs = some x) :
    ∃ y0 y1 y2 y3 y4 n, cs.length = P.cellsOf t ∧ DataW.trod enc P w 0 (fun _ => true) true n f0.type ((cs.drop f0.offset).take (P.cellsOf f0.type)) = some y0 ∧
      DataW.trod enc P w 0 (fun _ => true) true n f1.type ((cs.drop f1.offset).take (P.cellsOf f1.type)) = some y1 ∧ DataW.trod enc P w 0 (fun _ => true) true n f2.type ((cs.drop f2.offset).take (P.cellsOf f2.type)) = some y2 ∧
      DataW.trod enc P w 0 (fun _ => true) true n f3.type ((cs.drop f3.offset).take (P.cellsOf f3.type)) = some y3 ∧ DataW.trod enc P w 0 (fun _ => true) true n f4.type ((cs.drop f4.offset).take (P.cellsOf f4.type)) = some y4 := by
  obtain ⟨xs, n, _, rfl, hl, hlen, hf⟩ := DataW.trod_struct ht h
  match xs, hlen with
  | [y0, y1, y2, y3, y4], _ => exact ⟨y0, y1, y2, y3, y4, n, hl, by simpa using hf 0 f0 rfl, by simpa using hf 1 f1 rfl, by simpa using hf 2 f2 rfl, by simpa using hf 3 f3 rfl, by simpa using hf 4 f4 rfl⟩
end
/-- A call: kind, key, place, number, bytes. -/
structure OpM where
  K : Int
  Y : Int
  T : Int
  N : Int
  V : Value
  bs : List UInt8
instance : Inhabited Value := ⟨.nilIface⟩
instance : Inhabited OpM := ⟨⟨0, 0, 0, 0, .nilIface, []⟩⟩
def OpM.cell (o : OpM) (j : Nat) : Value := if j = 0 then .int .i64 o.K else if j = 1 then .int .i64 o.Y else if j = 2 then .int .i64 o.T else if j = 3 then .int .i64 o.N else o.V
def in64 (z : Int) : Prop := -9223372036854775808 ≤ z ∧ z ≤ 9223372036854775807
theorem in64_of {z : Int} (h : (Lit.int .i64 z).wf = true) : in64 z := by
  have : (Lit.int .i64 z).wf = (decide (-9223372036854775808 ≤ z) && decide (z ≤ 9223372036854775807)) := by
    first | rfl | (unfold Lit.wf; simp [IntKind.wrap]; done) | (simp [Lit.wf]; done)
  rw [this] at h
  simpa [in64] using h
/-- A slice of calls. -/
def OpsM (w : World) (B : Nat) (v : Value) (n : Nat) (X : Nat → OpM) : Prop :=
  SlF w B 5 v n (fun i j => (X i).cell j) ∧ ∀ i, i < n → Sl w B (X i).V (bv (X i).bs) ∧ in64 (X i).T ∧ in64 (X i).N
set_option linter.unusedVariables false in
theorem open_mops {H : Type} {enc : TypeId × Value → H} {w : World} {base0 : Nat} {v : Value} {d : DataW H} {p : List MemPlace} (h : DataW.Trod enc Tryd.prog w 0 (fun _ => true) true 41 v d p) (hv : Value.okWide Tryd.prog w .any base0 41 v) (_hr : ∀ n ∈ d.weights Tryd.prog 41, decide (n ≤ reachBytes) = true) :
    ∃ x : Nat × (Nat → OpM), OpsM w w.heap.size v x.1 x.2 := by
  obtain ⟨n, V, h1, h2⟩ := open_rows (k := 5) Tryd.underlying41 (by kernel_rfl) (by omega) h hv
  have c3 : Tryd.prog.cellsOf 3 = 1 := by kernel_rfl
  have c31 : Tryd.prog.cellsOf 31 = 1 := by kernel_rfl
  have one : ∀ i, i < n → ∃ x : OpM, (∀ j, j < 5 → V i j = x.cell j) ∧ Sl w w.heap.size x.V (bv x.bs) ∧ in64 x.T ∧ in64 x.N := by
    intro i hi
    obtain ⟨f, x, hx⟩ := h2 i hi
    obtain ⟨y0, y1, y2, y3, y4, m, _, f0, f1, f2, f3, f4⟩ := trod_struct5 Tryd.underlying48 hx
    simp only [c3, c31] at f0 f1 f2 f3 f4
    have e0 : (((List.range 5).map (V i)).drop 0).take 1 = [V i 0] := rfl
    have e1 : (((List.range 5).map (V i)).drop 1).take 1 = [V i 1] := rfl
    have e2 : (((List.range 5).map (V i)).drop 2).take 1 = [V i 2] := rfl
    have e3 : (((List.range 5).map (V i)).drop 3).take 1 = [V i 3] := rfl
    have e4 : (((List.range 5).map (V i)).drop 4).take 1 = [V i 4] := rfl
    rw [e0] at f0
    rw [e1] at f1
    rw [e2] at f2
    rw [e3] at f3
    rw [e4] at f4
    obtain ⟨a, ha, _⟩ := DataW.trod_int Tryd.underlying3 f0
    obtain ⟨b, hb, _⟩ := DataW.trod_int Tryd.underlying3 f1
    obtain ⟨c, hc, _, hc'⟩ := DataW.trod_int Tryd.underlying3 f2
    obtain ⟨e, he, _, he'⟩ := DataW.trod_int Tryd.underlying3 f3
    obtain ⟨bs, hbs⟩ := open_bytes_cell Tryd.underlying31 Tryd.underlying5 (by kernel_rfl) f4
    refine ⟨⟨a, b, c, e, V i 4, bs⟩, fun j hj => ?_, hbs, in64_of hc', in64_of he'⟩
    have : j = 0 ∨ j = 1 ∨ j = 2 ∨ j = 3 ∨ j = 4 := by omega
    rcases this with rfl | rfl | rfl | rfl | rfl
    · simpa [OpM.cell] using ha
    · simpa [OpM.cell] using hb
    · simpa [OpM.cell] using hc
    · simpa [OpM.cell] using he
    · simp [OpM.cell]
  obtain ⟨X, hX⟩ := choose_lt (α := OpM) one
  refine ⟨⟨n, X⟩, ?_, fun i hi => (hX i hi).2⟩
  obtain ⟨A, c, hv, hc, hm, h0, hx⟩ := h1
  refine ⟨A, c, hv, hc, hm, h0, fun hn => ?_⟩
  obtain ⟨b, off, hA, hB, hx⟩ := hx hn
  exact ⟨b, off, hA, hB, fun i j hi hj => (hx i j hi hj).trans (by rw [(hX i hi).1 j hj])⟩
end Go.Proofs.YtagjmkgbfbaekaaDoor
