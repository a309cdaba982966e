/- Regions that draw their order, whose calls make memory and leave all that was: one walk of the text's order serves every order. No condition. -/
import Derived.Test.YtagjmkgbfbaekaaDoorBase
import Derived.Deep.QuietTactic
import Derived.BigQuiet
namespace Go.Proofs.YtagjmkgbfbaekaaDoor
open Go.RowKit

/-- A world in which all that was in w0 is as it was. -/
structure Later (w0 : World) where
  w : World
  h : Below w0.heap.size w0 w
instance (w0 : World) : Inhabited (Later w0) := ⟨⟨w0, Below.refl _ _⟩⟩
theorem wp_region_later_lit {P : Program} {id : Nat} {Q : Exit → Act → World → Prop} {a : Act} {w : World} {l : List Oper} (hm : P.follows .mixedOrders = true) (hB : Region.lexB .any l.toArray = true)
    (h : wpQuiet P l.toArray (fun w' => ∃ x : Later w, w' = x.w) (fun a' => ∀ w', (∃ x : Later w, w' = x.w) → Q .normal a' w') l a) : (Code.region id l.toArray true).wp P Q a w :=
  wp_region_quiet (C := fun w' => ∃ x : Later w, w' = x.w) hm hB ⟨⟨_, below_drewN (Below.refl _ _) 1⟩, rfl⟩ (by simpa using h)
section
variable {P : Program} {f : FuncId} {args : Array Value} {w0 : World}
theorem later_call {x : Later w0} {v : Value} (h : Calls P f args x.w fun e w' => e = .returned v ∧ Below x.w.heap.size x.w w') : Calls P f args x.w fun e w'' => e = .returned v ∧ ∃ y : Later w0, w'' = y.w :=
  h.mono fun _ w' ⟨he, hb⟩ => ⟨he, ⟨w', x.h.trans (hb.mono x.h.size)⟩, rfl⟩
theorem later_same {x : Later w0} {v : Value} (h : Calls P f args x.w fun e w' => e = .returned v ∧ x.w = w') : Calls P f args x.w fun e w'' => e = .returned v ∧ ∃ y : Later w0, w'' = y.w :=
  h.mono fun _ _ ⟨he, hb⟩ => ⟨he, x, hb.symm⟩
theorem Later.cell (x : Later w0) {b o : Nat} {v : Value} (h : w0.cell? ⟨b, o, none⟩ = some v) : x.w.cell? ⟨b, o, none⟩ = some v :=
  (x.h.cell (p := ⟨b, o, none⟩) (World.block_lt_of_cell? _ _ h)).trans h
theorem Later.after (x : Later w0) {B : Nat} {w : World} (h : Below B w w0) (hB : B ≤ w0.heap.size) : Below B w x.w := h.trans (x.h.mono hB)
end
end Go.Proofs.YtagjmkgbfbaekaaDoor
