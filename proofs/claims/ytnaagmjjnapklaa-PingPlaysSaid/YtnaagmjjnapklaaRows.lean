/-
  No cell of these rows narrows 'for every input' (looked for: loops, veiled, ifaces, maps, wideKeys, modest, calm, conditions, laid).
  DERIVED. THE GIVEN ROWS OF THIS SEAT. 4 by the template 'for every input the law returns true; each argument reads behind the call as it read before'; 0 by the template 'total and deterministic' (their statements: YtnaagmjjnapklaaTotals.lean).
  GIVEN WITH THE SEED: the statements are not yours to turn. If you find one false, say at which input.
  Laid BY PROGRAM, IN A SANDBOX (cutbox-rows.mjs): the forced cells as the released guide's own fill.sh prints them over the translation 41e53991cd5d0821… (all of the seat's roots in one cut). By AI agents, Wed Nov 11 2026. No macro, syntax, notation, axiom, sorry.
-/
import Derived.Test.YtnaagmjjnapklaaChecked
import GoSem.Claim
import GoSem.ClaimJoined
import GoSem.ClaimMapViews
import Derived.JoinedTies
import Derived.KernelRfl
namespace Go.Proofs.Ytnaagmjjnapklaa
/- THE CELL 'sum', in the pinned program and in every row, IS THE sha256 OF THE DUMP (.gsa) THAT YtnaagmjjnapklaaProg.lean LOADS. Nothing in Lean hashes anything: it is a label: what it is worth is what the hold of that sum in a sandbox is worth. -/
noncomputable def Try.pinned : Pinned := { name := "ytnaagmjjnapklaa", sum := "41e53991cd5d0821e5289d158f81bd780473820aae877bad001dcd5235378bdb", checked := Try.checked }
namespace Rows
def none {H : Type} : Left H := { results := [], args := [] }

/-- 'tableaulaw01.WordFixed': WHATEVER THE INPUT: true; the input reads as it did. -/
def wordFixedSpec : ChangeSpec := { name := "wordFixed", fn := fun _ => fun
  | [d1, d2] => { results := [.lit (.bool true)], args := [d1, d2] }
  | _ => none }
def wordFixedRow : OpenClaim := { program := "ytnaagmjjnapklaa", sum := "41e53991cd5d0821e5289d158f81bd780473820aae877bad001dcd5235378bdb", func := "tableau/tableaulaw01.WordFixed", spec := "wordFixed", apart := false }
def WordFixedSaid : Prop := wordFixedRow.holds Try.pinned (OpenSpec.ofChange wordFixedSpec)

/-- ITS FALSE NEIGHBOUR: 'it returns false'. Refute it at one input. -/
def wordFixedWrong : ChangeSpec := { name := "wordFixed", fn := fun _ => fun
  | [d1, d2] => { results := [.lit (.bool false)], args := [d1, d2] }
  | _ => none }
def WordFixedWrongFalsely : Prop := wordFixedRow.holds Try.pinned (OpenSpec.ofChange wordFixedWrong)

/-- 'tableaulaw21.PingLates': WHATEVER THE INPUT: true; the input reads as it did. -/
def pingLatesSpec : ChangeSpec := { name := "pingLates", fn := fun _ => fun
  | [d1, d2, d3, d4] => { results := [.lit (.bool true)], args := [d1, d2, d3, d4] }
  | _ => none }
def pingLatesRow : OpenClaim := { program := "ytnaagmjjnapklaa", sum := "41e53991cd5d0821e5289d158f81bd780473820aae877bad001dcd5235378bdb", func := "tableau/tableaulaw21.PingLates", spec := "pingLates", apart := false }
def PingLatesSaid : Prop := pingLatesRow.holds Try.pinned (OpenSpec.ofChange pingLatesSpec)

/-- ITS FALSE NEIGHBOUR: 'it returns false'. Refute it at one input. -/
def pingLatesWrong : ChangeSpec := { name := "pingLates", fn := fun _ => fun
  | [d1, d2, d3, d4] => { results := [.lit (.bool false)], args := [d1, d2, d3, d4] }
  | _ => none }
def PingLatesWrongFalsely : Prop := pingLatesRow.holds Try.pinned (OpenSpec.ofChange pingLatesWrong)

/-- 'tableaulaw21.PingPlays': WHATEVER THE INPUT: true; the input reads as it did. -/
def pingPlaysSpec : ChangeSpec := { name := "pingPlays", fn := fun _ => fun
  | [d] => { results := [.lit (.bool true)], args := [d] }
  | _ => none }
def pingPlaysRow : OpenClaim := { program := "ytnaagmjjnapklaa", sum := "41e53991cd5d0821e5289d158f81bd780473820aae877bad001dcd5235378bdb", func := "tableau/tableaulaw21.PingPlays", spec := "pingPlays", apart := false }
def PingPlaysSaid : Prop := pingPlaysRow.holds Try.pinned (OpenSpec.ofChange pingPlaysSpec)

/-- ITS FALSE NEIGHBOUR: 'it returns false'. Refute it at one input. -/
def pingPlaysWrong : ChangeSpec := { name := "pingPlays", fn := fun _ => fun
  | [d] => { results := [.lit (.bool false)], args := [d] }
  | _ => none }
def PingPlaysWrongFalsely : Prop := pingPlaysRow.holds Try.pinned (OpenSpec.ofChange pingPlaysWrong)

/-- 'tableaulaw21.PingAsks': WHATEVER THE INPUT: true; the input reads as it did. -/
def pingAsksSpec : ChangeSpec := { name := "pingAsks", fn := fun _ => fun
  | [d] => { results := [.lit (.bool true)], args := [d] }
  | _ => none }
def pingAsksRow : OpenClaim := { program := "ytnaagmjjnapklaa", sum := "41e53991cd5d0821e5289d158f81bd780473820aae877bad001dcd5235378bdb", func := "tableau/tableaulaw21.PingAsks", spec := "pingAsks", apart := false }
def PingAsksSaid : Prop := pingAsksRow.holds Try.pinned (OpenSpec.ofChange pingAsksSpec)

/-- ITS FALSE NEIGHBOUR: 'it returns false'. Refute it at one input. -/
def pingAsksWrong : ChangeSpec := { name := "pingAsks", fn := fun _ => fun
  | [d] => { results := [.lit (.bool false)], args := [d] }
  | _ => none }
def PingAsksWrongFalsely : Prop := pingAsksRow.holds Try.pinned (OpenSpec.ofChange pingAsksWrong)

/- THE SECOND FORM. 'bulk': how many values and letters a reading holds, each counted each time it is reached (what is shared counts as often as it is met; a slice's spare places count too). A statement '..UptoSaid' is the law's where the arguments, and the package variables that the reading takes, are together of bulk at most 1048576: NARROWER than '..Said'. Prove '..Said' where nothing that the law and all that it calls make is longer than what came in: it says more and counts as full. Else prove '..UptoSaid'. A law counts once. -/
mutual
def uptoBulk {H : Type} : DataW H → Nat
  | .lit (.string bytes) => bytes.length + 1
  | .lit _ => 1
  | .nil => 1
  | .ptr d => uptoBulk d + 1
  | .slice elems spare => uptoBulkAll elems + uptoBulkAll spare + 1
  | .agg parts => uptoBulkAll parts + 1
  | .iface _ d => uptoBulk d + 1
  | .map entries => uptoBulkEntries entries + 1
  | .held _ => 1
def uptoBulkAll {H : Type} : List (DataW H) → Nat
  | [] => 0
  | d :: r => uptoBulk d + uptoBulkAll r
def uptoBulkEntries {H : Type} : List (Lit × DataW H) → Nat
  | [] => 0
  | x :: r => uptoBulkEntry x + uptoBulkEntries r
def uptoBulkEntry {H : Type} : Lit × DataW H → Nat
  | (.string bytes, d) => bytes.length + uptoBulk d + 1
  | (_, d) => uptoBulk d + 1
 end
def uptoSmall : (H : Type) → List (DataW H) → Bool := fun _ ds => decide (uptoBulkAll ds ≤ 1048576)
def OpenSpec.upto (s : _root_.Go.ChangeSpec) : _root_.Go.OpenSpec := { _root_.Go.OpenSpec.ofChange s with cond := some uptoSmall }

/-- 'tableaulaw01.WordFixed', WHERE WHAT IT READS IS OF BULK AT MOST 1048576: true; the input reads as it did. -/
def wordFixedUptoRow : OpenClaim := { program := "ytnaagmjjnapklaa", sum := "41e53991cd5d0821e5289d158f81bd780473820aae877bad001dcd5235378bdb", func := "tableau/tableaulaw01.WordFixed", spec := "wordFixed", apart := false, narrowed := true }
def WordFixedUptoSaid : Prop := wordFixedUptoRow.holds Try.pinned (OpenSpec.upto wordFixedSpec)

/-- 'tableaulaw21.PingLates', WHERE WHAT IT READS IS OF BULK AT MOST 1048576: true; the input reads as it did. -/
def pingLatesUptoRow : OpenClaim := { program := "ytnaagmjjnapklaa", sum := "41e53991cd5d0821e5289d158f81bd780473820aae877bad001dcd5235378bdb", func := "tableau/tableaulaw21.PingLates", spec := "pingLates", apart := false, narrowed := true }
def PingLatesUptoSaid : Prop := pingLatesUptoRow.holds Try.pinned (OpenSpec.upto pingLatesSpec)

/-- 'tableaulaw21.PingPlays', WHERE WHAT IT READS IS OF BULK AT MOST 1048576: true; the input reads as it did. -/
def pingPlaysUptoRow : OpenClaim := { program := "ytnaagmjjnapklaa", sum := "41e53991cd5d0821e5289d158f81bd780473820aae877bad001dcd5235378bdb", func := "tableau/tableaulaw21.PingPlays", spec := "pingPlays", apart := false, narrowed := true }
def PingPlaysUptoSaid : Prop := pingPlaysUptoRow.holds Try.pinned (OpenSpec.upto pingPlaysSpec)

/-- 'tableaulaw21.PingAsks', WHERE WHAT IT READS IS OF BULK AT MOST 1048576: true; the input reads as it did. -/
def pingAsksUptoRow : OpenClaim := { program := "ytnaagmjjnapklaa", sum := "41e53991cd5d0821e5289d158f81bd780473820aae877bad001dcd5235378bdb", func := "tableau/tableaulaw21.PingAsks", spec := "pingAsks", apart := false, narrowed := true }
def PingAsksUptoSaid : Prop := pingAsksUptoRow.holds Try.pinned (OpenSpec.upto pingAsksSpec)

end Rows
end Go.Proofs.Ytnaagmjjnapklaa
