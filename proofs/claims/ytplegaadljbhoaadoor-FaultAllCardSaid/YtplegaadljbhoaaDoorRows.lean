/-
  NARROWER THAN 'FOR EVERY INPUT', by the rows' own cells (each row's printed sentence says how): FaultFirst: laid · FaultWraps: laid · FaultApart: laid · FaultAll: laid · FaultCodes: laid.
  DERIVED. THE GIVEN ROWS OF THIS SEAT. 5 by the template 'for every input the law returns true; each argument reads behind the call as it read before'; 0 by the template 'total and deterministic' (their statements: YtplegaadljbhoaaDoorTotals.lean).
  GIVEN WITH THE SEED: the statements are not yours to turn. If you find one false, say at which input.
  Laid BY PROGRAM, IN A SANDBOX (cutbox-rows.mjs): the forced cells as the released guide's own fill.sh prints them over the translation 97e6d8814db00993… (all of the seat's roots in one cut). By AI agents, Wed Nov 11 2026. No macro, syntax, notation, axiom, sorry.
-/
import Derived.Test.YtplegaadljbhoaaDoorChecked
import GoSem.Claim
import GoSem.ClaimJoined
import GoSem.ClaimMapViews
import Derived.JoinedTies
import Derived.KernelRfl
namespace Go.Proofs.YtplegaadljbhoaaDoor
/- THE CELL 'sum', in the pinned program and in every row, IS THE sha256 OF THE DUMP (.gsa) THAT YtplegaadljbhoaaDoorProg.lean LOADS. Nothing in Lean hashes anything: it is a label: what it is worth is what the hold of that sum in a sandbox is worth. -/
noncomputable def Tryd.pinned : Pinned := { name := "ytplegaadljbhoaadoor", sum := "97e6d8814db00993532d1a4170d1ea9b6f931cd17411fcac93f98b3a756bb701", checked := Tryd.checked }
namespace Rows
def none {H : Type} : Left H := { results := [], args := [] }

/- WHAT THE LISTED PACKAGE-LEVEL VARIABLES READ AS WHEN THE CALL BEGINS. Each datum BY PROGRAM (the guide's laid-datum.mjs) off the statement by which the dump's own 'gosem.cut.vars' lays the variable. In a bare row this is a premise. The card (YtplegaadljbhoaaDoorCards.lean) ties it to the program's text. -/
def laid_errors_errorType {H : Type} : DataW H := .iface "internal/reflectlite.rtype" (.agg [.ptr (.lit (.string [101, 114, 114, 111, 114]))])
def laid_tableau_api_ErrArg {H : Type} : DataW H := .iface "*errors.errorString" (.ptr (.agg [.lit (.string [97, 114, 103, 117, 109, 101, 110, 116])]))
def laid_tableau_api_ErrShort {H : Type} : DataW H := .iface "*errors.errorString" (.ptr (.agg [.lit (.string [115, 104, 111, 114, 116])]))
def laid_tableau_api_ErrBytes {H : Type} : DataW H := .iface "*errors.errorString" (.ptr (.agg [.lit (.string [98, 121, 116, 101, 115])]))
def laid_tableau_api_ErrBig {H : Type} : DataW H := .iface "*errors.errorString" (.ptr (.agg [.lit (.string [98, 105, 103])]))
def laid_tableau_api_ErrObject {H : Type} : DataW H := .iface "*errors.errorString" (.ptr (.agg [.lit (.string [111, 98, 106, 101, 99, 116])]))
def laid_tableau_api_ErrMethod {H : Type} : DataW H := .iface "*errors.errorString" (.ptr (.agg [.lit (.string [109, 101, 116, 104, 111, 100])]))
def laid_tableau_api_ErrFormat {H : Type} : DataW H := .iface "*errors.errorString" (.ptr (.agg [.lit (.string [102, 111, 114, 109, 97, 116])]))
def laid_tableau_api_ErrStride {H : Type} : DataW H := .iface "*errors.errorString" (.ptr (.agg [.lit (.string [115, 116, 114, 105, 100, 101])]))
def laid_tableau_api_ErrFile {H : Type} : DataW H := .iface "*errors.errorString" (.ptr (.agg [.lit (.string [102, 105, 108, 101])]))
def laid_tableau_api_ErrRole {H : Type} : DataW H := .iface "*errors.errorString" (.ptr (.agg [.lit (.string [114, 111, 108, 101])]))
def laid_tableau_api_ErrPlace {H : Type} : DataW H := .iface "*errors.errorString" (.ptr (.agg [.lit (.string [112, 108, 97, 99, 101])]))
def laid_tableau_api_ErrState {H : Type} : DataW H := .iface "*errors.errorString" (.ptr (.agg [.lit (.string [115, 116, 97, 116, 101])]))
def laid_tableau_api_ErrSerial {H : Type} : DataW H := .iface "*errors.errorString" (.ptr (.agg [.lit (.string [115, 101, 114, 105, 97, 108])]))
def laid_tableau_api_ErrFull {H : Type} : DataW H := .iface "*errors.errorString" (.ptr (.agg [.lit (.string [102, 117, 108, 108])]))
def laid_tableau_api_ErrGone {H : Type} : DataW H := .iface "*errors.errorString" (.ptr (.agg [.lit (.string [103, 111, 110, 101])]))
def laid_tableau_api_ErrSheet {H : Type} : DataW H := .iface "*errors.errorString" (.ptr (.agg [.lit (.string [115, 104, 101, 101, 116])]))

/-- 'tableaulaw02.FaultFirst': WHATEVER THE INPUT: true; the input reads as it did. -/
def faultFirstSpec : ChangeSpec := { name := "faultFirst", fn := fun _ => fun
  | [d1, d2, d3, d4] => { results := [.lit (.bool true)], args := [d1, d2, d3, d4] }
  | _ => none }
def faultFirstRow : OpenClaim := { program := "ytplegaadljbhoaadoor", sum := "97e6d8814db00993532d1a4170d1ea9b6f931cd17411fcac93f98b3a756bb701", func := "tableau/tableaulaw02.FaultFirst", spec := "faultFirst", inPlace := ["internal/reflectlite.ValueOf", "(internal/reflectlite.Value).Type", "(internal/reflectlite.Value).IsNil", "internal/reflectlite.TypeOf", "(internal/reflectlite.Value).Elem", "(internal/reflectlite.Value).Set"], unfollowed := true, recurses := true, named := ["tableau/api.ErrRole", "errors.errorType", "tableau/api.ErrArg", "tableau/api.ErrShort", "tableau/api.ErrBytes", "tableau/api.ErrBig", "tableau/api.ErrObject", "tableau/api.ErrMethod", "tableau/api.ErrFormat", "tableau/api.ErrStride", "tableau/api.ErrFile", "tableau/api.ErrPlace", "tableau/api.ErrState", "tableau/api.ErrSerial", "tableau/api.ErrFull", "tableau/api.ErrGone", "tableau/api.ErrSheet"], apart := false, laid := [("errors.errorType", laid_errors_errorType), ("tableau/api.ErrArg", laid_tableau_api_ErrArg), ("tableau/api.ErrShort", laid_tableau_api_ErrShort), ("tableau/api.ErrBytes", laid_tableau_api_ErrBytes), ("tableau/api.ErrBig", laid_tableau_api_ErrBig), ("tableau/api.ErrObject", laid_tableau_api_ErrObject), ("tableau/api.ErrMethod", laid_tableau_api_ErrMethod), ("tableau/api.ErrFormat", laid_tableau_api_ErrFormat), ("tableau/api.ErrStride", laid_tableau_api_ErrStride), ("tableau/api.ErrFile", laid_tableau_api_ErrFile), ("tableau/api.ErrRole", laid_tableau_api_ErrRole), ("tableau/api.ErrPlace", laid_tableau_api_ErrPlace), ("tableau/api.ErrState", laid_tableau_api_ErrState), ("tableau/api.ErrSerial", laid_tableau_api_ErrSerial), ("tableau/api.ErrFull", laid_tableau_api_ErrFull), ("tableau/api.ErrGone", laid_tableau_api_ErrGone), ("tableau/api.ErrSheet", laid_tableau_api_ErrSheet)] }
def FaultFirstSaid : Prop := faultFirstRow.holds Tryd.pinned (OpenSpec.ofChange faultFirstSpec)

/-- ITS FALSE NEIGHBOUR: 'it returns false'. Refute it at one input. -/
def faultFirstWrong : ChangeSpec := { name := "faultFirst", fn := fun _ => fun
  | [d1, d2, d3, d4] => { results := [.lit (.bool false)], args := [d1, d2, d3, d4] }
  | _ => none }
def FaultFirstWrongFalsely : Prop := faultFirstRow.holds Tryd.pinned (OpenSpec.ofChange faultFirstWrong)

/-- 'tableaulaw02.FaultWraps': WHATEVER THE INPUT: true; the input reads as it did. -/
def faultWrapsSpec : ChangeSpec := { name := "faultWraps", fn := fun _ => fun
  | [d1, d2, d3] => { results := [.lit (.bool true)], args := [d1, d2, d3] }
  | _ => none }
def faultWrapsRow : OpenClaim := { program := "ytplegaadljbhoaadoor", sum := "97e6d8814db00993532d1a4170d1ea9b6f931cd17411fcac93f98b3a756bb701", func := "tableau/tableaulaw02.FaultWraps", spec := "faultWraps", inPlace := ["internal/reflectlite.ValueOf", "(internal/reflectlite.Value).Type", "(internal/reflectlite.Value).IsNil", "internal/reflectlite.TypeOf", "(internal/reflectlite.Value).Elem", "(internal/reflectlite.Value).Set"], unfollowed := true, recurses := true, named := ["tableau/api.ErrRole", "errors.errorType", "tableau/api.ErrArg", "tableau/api.ErrShort", "tableau/api.ErrBytes", "tableau/api.ErrBig", "tableau/api.ErrObject", "tableau/api.ErrMethod", "tableau/api.ErrFormat", "tableau/api.ErrStride", "tableau/api.ErrFile", "tableau/api.ErrPlace", "tableau/api.ErrState", "tableau/api.ErrSerial", "tableau/api.ErrFull", "tableau/api.ErrGone", "tableau/api.ErrSheet"], apart := false, laid := [("errors.errorType", laid_errors_errorType), ("tableau/api.ErrArg", laid_tableau_api_ErrArg), ("tableau/api.ErrShort", laid_tableau_api_ErrShort), ("tableau/api.ErrBytes", laid_tableau_api_ErrBytes), ("tableau/api.ErrBig", laid_tableau_api_ErrBig), ("tableau/api.ErrObject", laid_tableau_api_ErrObject), ("tableau/api.ErrMethod", laid_tableau_api_ErrMethod), ("tableau/api.ErrFormat", laid_tableau_api_ErrFormat), ("tableau/api.ErrStride", laid_tableau_api_ErrStride), ("tableau/api.ErrFile", laid_tableau_api_ErrFile), ("tableau/api.ErrRole", laid_tableau_api_ErrRole), ("tableau/api.ErrPlace", laid_tableau_api_ErrPlace), ("tableau/api.ErrState", laid_tableau_api_ErrState), ("tableau/api.ErrSerial", laid_tableau_api_ErrSerial), ("tableau/api.ErrFull", laid_tableau_api_ErrFull), ("tableau/api.ErrGone", laid_tableau_api_ErrGone), ("tableau/api.ErrSheet", laid_tableau_api_ErrSheet)] }
def FaultWrapsSaid : Prop := faultWrapsRow.holds Tryd.pinned (OpenSpec.ofChange faultWrapsSpec)

/-- ITS FALSE NEIGHBOUR: 'it returns false'. Refute it at one input. -/
def faultWrapsWrong : ChangeSpec := { name := "faultWraps", fn := fun _ => fun
  | [d1, d2, d3] => { results := [.lit (.bool false)], args := [d1, d2, d3] }
  | _ => none }
def FaultWrapsWrongFalsely : Prop := faultWrapsRow.holds Tryd.pinned (OpenSpec.ofChange faultWrapsWrong)

/-- 'tableaulaw02.FaultApart': WHATEVER THE INPUT: true; the input reads as it did. -/
def faultApartSpec : ChangeSpec := { name := "faultApart", fn := fun _ => fun
  | [d1, d2, d3, d4] => { results := [.lit (.bool true)], args := [d1, d2, d3, d4] }
  | _ => none }
def faultApartRow : OpenClaim := { program := "ytplegaadljbhoaadoor", sum := "97e6d8814db00993532d1a4170d1ea9b6f931cd17411fcac93f98b3a756bb701", func := "tableau/tableaulaw02.FaultApart", spec := "faultApart", inPlace := ["internal/reflectlite.ValueOf", "(internal/reflectlite.Value).Type", "(internal/reflectlite.Value).IsNil", "internal/reflectlite.TypeOf", "(internal/reflectlite.Value).Elem", "(internal/reflectlite.Value).Set"], unfollowed := true, recurses := true, named := ["tableau/api.ErrArg", "tableau/api.ErrShort", "tableau/api.ErrBytes", "tableau/api.ErrBig", "tableau/api.ErrObject", "tableau/api.ErrMethod", "tableau/api.ErrFormat", "tableau/api.ErrStride", "tableau/api.ErrFile", "tableau/api.ErrRole", "tableau/api.ErrPlace", "tableau/api.ErrState", "tableau/api.ErrSerial", "tableau/api.ErrFull", "tableau/api.ErrGone", "tableau/api.ErrSheet", "errors.errorType"], apart := false, laid := [("errors.errorType", laid_errors_errorType), ("tableau/api.ErrArg", laid_tableau_api_ErrArg), ("tableau/api.ErrShort", laid_tableau_api_ErrShort), ("tableau/api.ErrBytes", laid_tableau_api_ErrBytes), ("tableau/api.ErrBig", laid_tableau_api_ErrBig), ("tableau/api.ErrObject", laid_tableau_api_ErrObject), ("tableau/api.ErrMethod", laid_tableau_api_ErrMethod), ("tableau/api.ErrFormat", laid_tableau_api_ErrFormat), ("tableau/api.ErrStride", laid_tableau_api_ErrStride), ("tableau/api.ErrFile", laid_tableau_api_ErrFile), ("tableau/api.ErrRole", laid_tableau_api_ErrRole), ("tableau/api.ErrPlace", laid_tableau_api_ErrPlace), ("tableau/api.ErrState", laid_tableau_api_ErrState), ("tableau/api.ErrSerial", laid_tableau_api_ErrSerial), ("tableau/api.ErrFull", laid_tableau_api_ErrFull), ("tableau/api.ErrGone", laid_tableau_api_ErrGone), ("tableau/api.ErrSheet", laid_tableau_api_ErrSheet)] }
def FaultApartSaid : Prop := faultApartRow.holds Tryd.pinned (OpenSpec.ofChange faultApartSpec)

/-- ITS FALSE NEIGHBOUR: 'it returns false'. Refute it at one input. -/
def faultApartWrong : ChangeSpec := { name := "faultApart", fn := fun _ => fun
  | [d1, d2, d3, d4] => { results := [.lit (.bool false)], args := [d1, d2, d3, d4] }
  | _ => none }
def FaultApartWrongFalsely : Prop := faultApartRow.holds Tryd.pinned (OpenSpec.ofChange faultApartWrong)

/-- 'tableaulaw02.FaultAll': WHATEVER THE INPUT: true; the input reads as it did. -/
def faultAllSpec : ChangeSpec := { name := "faultAll", fn := fun _ => fun
  | [d1, d2, d3, d4, d5] => { results := [.lit (.bool true)], args := [d1, d2, d3, d4, d5] }
  | _ => none }
def faultAllRow : OpenClaim := { program := "ytplegaadljbhoaadoor", sum := "97e6d8814db00993532d1a4170d1ea9b6f931cd17411fcac93f98b3a756bb701", func := "tableau/tableaulaw02.FaultAll", spec := "faultAll", inPlace := ["internal/reflectlite.ValueOf", "(internal/reflectlite.Value).Type", "(internal/reflectlite.Value).IsNil", "internal/reflectlite.TypeOf", "(internal/reflectlite.Value).Elem", "(internal/reflectlite.Value).Set"], unfollowed := true, recurses := true, named := ["tableau/api.ErrRole", "errors.errorType", "tableau/api.ErrArg", "tableau/api.ErrShort", "tableau/api.ErrBytes", "tableau/api.ErrBig", "tableau/api.ErrObject", "tableau/api.ErrMethod", "tableau/api.ErrFormat", "tableau/api.ErrStride", "tableau/api.ErrFile", "tableau/api.ErrPlace", "tableau/api.ErrState", "tableau/api.ErrSerial", "tableau/api.ErrFull", "tableau/api.ErrGone", "tableau/api.ErrSheet"], apart := false, laid := [("errors.errorType", laid_errors_errorType), ("tableau/api.ErrArg", laid_tableau_api_ErrArg), ("tableau/api.ErrShort", laid_tableau_api_ErrShort), ("tableau/api.ErrBytes", laid_tableau_api_ErrBytes), ("tableau/api.ErrBig", laid_tableau_api_ErrBig), ("tableau/api.ErrObject", laid_tableau_api_ErrObject), ("tableau/api.ErrMethod", laid_tableau_api_ErrMethod), ("tableau/api.ErrFormat", laid_tableau_api_ErrFormat), ("tableau/api.ErrStride", laid_tableau_api_ErrStride), ("tableau/api.ErrFile", laid_tableau_api_ErrFile), ("tableau/api.ErrRole", laid_tableau_api_ErrRole), ("tableau/api.ErrPlace", laid_tableau_api_ErrPlace), ("tableau/api.ErrState", laid_tableau_api_ErrState), ("tableau/api.ErrSerial", laid_tableau_api_ErrSerial), ("tableau/api.ErrFull", laid_tableau_api_ErrFull), ("tableau/api.ErrGone", laid_tableau_api_ErrGone), ("tableau/api.ErrSheet", laid_tableau_api_ErrSheet)] }
def FaultAllSaid : Prop := faultAllRow.holds Tryd.pinned (OpenSpec.ofChange faultAllSpec)

/-- ITS FALSE NEIGHBOUR: 'it returns false'. Refute it at one input. -/
def faultAllWrong : ChangeSpec := { name := "faultAll", fn := fun _ => fun
  | [d1, d2, d3, d4, d5] => { results := [.lit (.bool false)], args := [d1, d2, d3, d4, d5] }
  | _ => none }
def FaultAllWrongFalsely : Prop := faultAllRow.holds Tryd.pinned (OpenSpec.ofChange faultAllWrong)

/-- 'tableaulaw02.FaultCodes': WHATEVER THE INPUT: true; the input reads as it did. -/
def faultCodesSpec : ChangeSpec := { name := "faultCodes", fn := fun _ => fun
  | [] => { results := [.lit (.bool true)], args := [] }
  | _ => none }
def faultCodesRow : OpenClaim := { program := "ytplegaadljbhoaadoor", sum := "97e6d8814db00993532d1a4170d1ea9b6f931cd17411fcac93f98b3a756bb701", func := "tableau/tableaulaw02.FaultCodes", spec := "faultCodes", inPlace := ["internal/reflectlite.TypeOf", "internal/reflectlite.ValueOf", "(internal/reflectlite.Value).Type", "(internal/reflectlite.Value).IsNil", "(internal/reflectlite.Value).Elem", "(internal/reflectlite.Value).Set"], unfollowed := true, recurses := true, named := ["tableau/api.ErrArg", "tableau/api.ErrShort", "tableau/api.ErrBytes", "tableau/api.ErrBig", "tableau/api.ErrObject", "tableau/api.ErrMethod", "tableau/api.ErrFormat", "tableau/api.ErrStride", "tableau/api.ErrFile", "tableau/api.ErrRole", "tableau/api.ErrPlace", "tableau/api.ErrState", "tableau/api.ErrSerial", "tableau/api.ErrFull", "tableau/api.ErrGone", "tableau/api.ErrSheet", "errors.errorType"], apart := false, laid := [("errors.errorType", laid_errors_errorType), ("tableau/api.ErrArg", laid_tableau_api_ErrArg), ("tableau/api.ErrShort", laid_tableau_api_ErrShort), ("tableau/api.ErrBytes", laid_tableau_api_ErrBytes), ("tableau/api.ErrBig", laid_tableau_api_ErrBig), ("tableau/api.ErrObject", laid_tableau_api_ErrObject), ("tableau/api.ErrMethod", laid_tableau_api_ErrMethod), ("tableau/api.ErrFormat", laid_tableau_api_ErrFormat), ("tableau/api.ErrStride", laid_tableau_api_ErrStride), ("tableau/api.ErrFile", laid_tableau_api_ErrFile), ("tableau/api.ErrRole", laid_tableau_api_ErrRole), ("tableau/api.ErrPlace", laid_tableau_api_ErrPlace), ("tableau/api.ErrState", laid_tableau_api_ErrState), ("tableau/api.ErrSerial", laid_tableau_api_ErrSerial), ("tableau/api.ErrFull", laid_tableau_api_ErrFull), ("tableau/api.ErrGone", laid_tableau_api_ErrGone), ("tableau/api.ErrSheet", laid_tableau_api_ErrSheet)] }
def FaultCodesSaid : Prop := faultCodesRow.holds Tryd.pinned (OpenSpec.ofChange faultCodesSpec)

/-- ITS FALSE NEIGHBOUR: 'it returns false'. Refute it at one input. -/
def faultCodesWrong : ChangeSpec := { name := "faultCodes", fn := fun _ => fun
  | [] => { results := [.lit (.bool false)], args := [] }
  | _ => none }
def FaultCodesWrongFalsely : Prop := faultCodesRow.holds Tryd.pinned (OpenSpec.ofChange faultCodesWrong)

/- THE SECOND FORM. 'bulk': how many values and letters a reading holds, each counted each time it is reached (what is shared counts as often as it is met; a slice's spare places count too). A statement '..UptoSaid' is the law's where the arguments, and the package variables that the reading takes, are together of bulk at most 1048576: NARROWER than '..Said'. Prove '..Said' where nothing that the law and all that it calls make is longer than what came in: it says more and counts as full. Else prove '..UptoSaid'. A law counts once. -/
mutual
def uptoBulk {H : Type} : DataW H → Nat
  | .lit (.string bytes) => bytes.length + 1
  | .lit _ => 1
  | .nil => 1
  | .ptr d => uptoBulk d + 1
  | .slice elems spare => uptoBulkAll elems + uptoBulkAll spare + 1
  | .agg parts => uptoBulkAll parts + 1
  | .iface _ d => uptoBulk d + 1
  | .map entries => uptoBulkEntries entries + 1
  | .held _ => 1
def uptoBulkAll {H : Type} : List (DataW H) → Nat
  | [] => 0
  | d :: r => uptoBulk d + uptoBulkAll r
def uptoBulkEntries {H : Type} : List (Lit × DataW H) → Nat
  | [] => 0
  | x :: r => uptoBulkEntry x + uptoBulkEntries r
def uptoBulkEntry {H : Type} : Lit × DataW H → Nat
  | (.string bytes, d) => bytes.length + uptoBulk d + 1
  | (_, d) => uptoBulk d + 1
 end
def uptoSmall : (H : Type) → List (DataW H) → Bool := fun _ ds => decide (uptoBulkAll ds ≤ 1048576)
def OpenSpec.upto (s : _root_.Go.ChangeSpec) : _root_.Go.OpenSpec := { _root_.Go.OpenSpec.ofChange s with cond := some uptoSmall }

/-- 'tableaulaw02.FaultFirst', WHERE WHAT IT READS IS OF BULK AT MOST 1048576: true; the input reads as it did. -/
def faultFirstUptoRow : OpenClaim := { program := "ytplegaadljbhoaadoor", sum := "97e6d8814db00993532d1a4170d1ea9b6f931cd17411fcac93f98b3a756bb701", func := "tableau/tableaulaw02.FaultFirst", spec := "faultFirst", inPlace := ["internal/reflectlite.ValueOf", "(internal/reflectlite.Value).Type", "(internal/reflectlite.Value).IsNil", "internal/reflectlite.TypeOf", "(internal/reflectlite.Value).Elem", "(internal/reflectlite.Value).Set"], unfollowed := true, recurses := true, named := ["tableau/api.ErrRole", "errors.errorType", "tableau/api.ErrArg", "tableau/api.ErrShort", "tableau/api.ErrBytes", "tableau/api.ErrBig", "tableau/api.ErrObject", "tableau/api.ErrMethod", "tableau/api.ErrFormat", "tableau/api.ErrStride", "tableau/api.ErrFile", "tableau/api.ErrPlace", "tableau/api.ErrState", "tableau/api.ErrSerial", "tableau/api.ErrFull", "tableau/api.ErrGone", "tableau/api.ErrSheet"], apart := false, laid := [("errors.errorType", laid_errors_errorType), ("tableau/api.ErrArg", laid_tableau_api_ErrArg), ("tableau/api.ErrShort", laid_tableau_api_ErrShort), ("tableau/api.ErrBytes", laid_tableau_api_ErrBytes), ("tableau/api.ErrBig", laid_tableau_api_ErrBig), ("tableau/api.ErrObject", laid_tableau_api_ErrObject), ("tableau/api.ErrMethod", laid_tableau_api_ErrMethod), ("tableau/api.ErrFormat", laid_tableau_api_ErrFormat), ("tableau/api.ErrStride", laid_tableau_api_ErrStride), ("tableau/api.ErrFile", laid_tableau_api_ErrFile), ("tableau/api.ErrRole", laid_tableau_api_ErrRole), ("tableau/api.ErrPlace", laid_tableau_api_ErrPlace), ("tableau/api.ErrState", laid_tableau_api_ErrState), ("tableau/api.ErrSerial", laid_tableau_api_ErrSerial), ("tableau/api.ErrFull", laid_tableau_api_ErrFull), ("tableau/api.ErrGone", laid_tableau_api_ErrGone), ("tableau/api.ErrSheet", laid_tableau_api_ErrSheet)], narrowed := true }
def FaultFirstUptoSaid : Prop := faultFirstUptoRow.holds Tryd.pinned (OpenSpec.upto faultFirstSpec)

/-- 'tableaulaw02.FaultWraps', WHERE WHAT IT READS IS OF BULK AT MOST 1048576: true; the input reads as it did. -/
def faultWrapsUptoRow : OpenClaim := { program := "ytplegaadljbhoaadoor", sum := "97e6d8814db00993532d1a4170d1ea9b6f931cd17411fcac93f98b3a756bb701", func := "tableau/tableaulaw02.FaultWraps", spec := "faultWraps", inPlace := ["internal/reflectlite.ValueOf", "(internal/reflectlite.Value).Type", "(internal/reflectlite.Value).IsNil", "internal/reflectlite.TypeOf", "(internal/reflectlite.Value).Elem", "(internal/reflectlite.Value).Set"], unfollowed := true, recurses := true, named := ["tableau/api.ErrRole", "errors.errorType", "tableau/api.ErrArg", "tableau/api.ErrShort", "tableau/api.ErrBytes", "tableau/api.ErrBig", "tableau/api.ErrObject", "tableau/api.ErrMethod", "tableau/api.ErrFormat", "tableau/api.ErrStride", "tableau/api.ErrFile", "tableau/api.ErrPlace", "tableau/api.ErrState", "tableau/api.ErrSerial", "tableau/api.ErrFull", "tableau/api.ErrGone", "tableau/api.ErrSheet"], apart := false, laid := [("errors.errorType", laid_errors_errorType), ("tableau/api.ErrArg", laid_tableau_api_ErrArg), ("tableau/api.ErrShort", laid_tableau_api_ErrShort), ("tableau/api.ErrBytes", laid_tableau_api_ErrBytes), ("tableau/api.ErrBig", laid_tableau_api_ErrBig), ("tableau/api.ErrObject", laid_tableau_api_ErrObject), ("tableau/api.ErrMethod", laid_tableau_api_ErrMethod), ("tableau/api.ErrFormat", laid_tableau_api_ErrFormat), ("tableau/api.ErrStride", laid_tableau_api_ErrStride), ("tableau/api.ErrFile", laid_tableau_api_ErrFile), ("tableau/api.ErrRole", laid_tableau_api_ErrRole), ("tableau/api.ErrPlace", laid_tableau_api_ErrPlace), ("tableau/api.ErrState", laid_tableau_api_ErrState), ("tableau/api.ErrSerial", laid_tableau_api_ErrSerial), ("tableau/api.ErrFull", laid_tableau_api_ErrFull), ("tableau/api.ErrGone", laid_tableau_api_ErrGone), ("tableau/api.ErrSheet", laid_tableau_api_ErrSheet)], narrowed := true }
def FaultWrapsUptoSaid : Prop := faultWrapsUptoRow.holds Tryd.pinned (OpenSpec.upto faultWrapsSpec)

/-- 'tableaulaw02.FaultApart', WHERE WHAT IT READS IS OF BULK AT MOST 1048576: true; the input reads as it did. -/
def faultApartUptoRow : OpenClaim := { program := "ytplegaadljbhoaadoor", sum := "97e6d8814db00993532d1a4170d1ea9b6f931cd17411fcac93f98b3a756bb701", func := "tableau/tableaulaw02.FaultApart", spec := "faultApart", inPlace := ["internal/reflectlite.ValueOf", "(internal/reflectlite.Value).Type", "(internal/reflectlite.Value).IsNil", "internal/reflectlite.TypeOf", "(internal/reflectlite.Value).Elem", "(internal/reflectlite.Value).Set"], unfollowed := true, recurses := true, named := ["tableau/api.ErrArg", "tableau/api.ErrShort", "tableau/api.ErrBytes", "tableau/api.ErrBig", "tableau/api.ErrObject", "tableau/api.ErrMethod", "tableau/api.ErrFormat", "tableau/api.ErrStride", "tableau/api.ErrFile", "tableau/api.ErrRole", "tableau/api.ErrPlace", "tableau/api.ErrState", "tableau/api.ErrSerial", "tableau/api.ErrFull", "tableau/api.ErrGone", "tableau/api.ErrSheet", "errors.errorType"], apart := false, laid := [("errors.errorType", laid_errors_errorType), ("tableau/api.ErrArg", laid_tableau_api_ErrArg), ("tableau/api.ErrShort", laid_tableau_api_ErrShort), ("tableau/api.ErrBytes", laid_tableau_api_ErrBytes), ("tableau/api.ErrBig", laid_tableau_api_ErrBig), ("tableau/api.ErrObject", laid_tableau_api_ErrObject), ("tableau/api.ErrMethod", laid_tableau_api_ErrMethod), ("tableau/api.ErrFormat", laid_tableau_api_ErrFormat), ("tableau/api.ErrStride", laid_tableau_api_ErrStride), ("tableau/api.ErrFile", laid_tableau_api_ErrFile), ("tableau/api.ErrRole", laid_tableau_api_ErrRole), ("tableau/api.ErrPlace", laid_tableau_api_ErrPlace), ("tableau/api.ErrState", laid_tableau_api_ErrState), ("tableau/api.ErrSerial", laid_tableau_api_ErrSerial), ("tableau/api.ErrFull", laid_tableau_api_ErrFull), ("tableau/api.ErrGone", laid_tableau_api_ErrGone), ("tableau/api.ErrSheet", laid_tableau_api_ErrSheet)], narrowed := true }
def FaultApartUptoSaid : Prop := faultApartUptoRow.holds Tryd.pinned (OpenSpec.upto faultApartSpec)

/-- 'tableaulaw02.FaultAll', WHERE WHAT IT READS IS OF BULK AT MOST 1048576: true; the input reads as it did. -/
def faultAllUptoRow : OpenClaim := { program := "ytplegaadljbhoaadoor", sum := "97e6d8814db00993532d1a4170d1ea9b6f931cd17411fcac93f98b3a756bb701", func := "tableau/tableaulaw02.FaultAll", spec := "faultAll", inPlace := ["internal/reflectlite.ValueOf", "(internal/reflectlite.Value).Type", "(internal/reflectlite.Value).IsNil", "internal/reflectlite.TypeOf", "(internal/reflectlite.Value).Elem", "(internal/reflectlite.Value).Set"], unfollowed := true, recurses := true, named := ["tableau/api.ErrRole", "errors.errorType", "tableau/api.ErrArg", "tableau/api.ErrShort", "tableau/api.ErrBytes", "tableau/api.ErrBig", "tableau/api.ErrObject", "tableau/api.ErrMethod", "tableau/api.ErrFormat", "tableau/api.ErrStride", "tableau/api.ErrFile", "tableau/api.ErrPlace", "tableau/api.ErrState", "tableau/api.ErrSerial", "tableau/api.ErrFull", "tableau/api.ErrGone", "tableau/api.ErrSheet"], apart := false, laid := [("errors.errorType", laid_errors_errorType), ("tableau/api.ErrArg", laid_tableau_api_ErrArg), ("tableau/api.ErrShort", laid_tableau_api_ErrShort), ("tableau/api.ErrBytes", laid_tableau_api_ErrBytes), ("tableau/api.ErrBig", laid_tableau_api_ErrBig), ("tableau/api.ErrObject", laid_tableau_api_ErrObject), ("tableau/api.ErrMethod", laid_tableau_api_ErrMethod), ("tableau/api.ErrFormat", laid_tableau_api_ErrFormat), ("tableau/api.ErrStride", laid_tableau_api_ErrStride), ("tableau/api.ErrFile", laid_tableau_api_ErrFile), ("tableau/api.ErrRole", laid_tableau_api_ErrRole), ("tableau/api.ErrPlace", laid_tableau_api_ErrPlace), ("tableau/api.ErrState", laid_tableau_api_ErrState), ("tableau/api.ErrSerial", laid_tableau_api_ErrSerial), ("tableau/api.ErrFull", laid_tableau_api_ErrFull), ("tableau/api.ErrGone", laid_tableau_api_ErrGone), ("tableau/api.ErrSheet", laid_tableau_api_ErrSheet)], narrowed := true }
def FaultAllUptoSaid : Prop := faultAllUptoRow.holds Tryd.pinned (OpenSpec.upto faultAllSpec)

/-- 'tableaulaw02.FaultCodes', WHERE WHAT IT READS IS OF BULK AT MOST 1048576: true; the input reads as it did. -/
def faultCodesUptoRow : OpenClaim := { program := "ytplegaadljbhoaadoor", sum := "97e6d8814db00993532d1a4170d1ea9b6f931cd17411fcac93f98b3a756bb701", func := "tableau/tableaulaw02.FaultCodes", spec := "faultCodes", inPlace := ["internal/reflectlite.TypeOf", "internal/reflectlite.ValueOf", "(internal/reflectlite.Value).Type", "(internal/reflectlite.Value).IsNil", "(internal/reflectlite.Value).Elem", "(internal/reflectlite.Value).Set"], unfollowed := true, recurses := true, named := ["tableau/api.ErrArg", "tableau/api.ErrShort", "tableau/api.ErrBytes", "tableau/api.ErrBig", "tableau/api.ErrObject", "tableau/api.ErrMethod", "tableau/api.ErrFormat", "tableau/api.ErrStride", "tableau/api.ErrFile", "tableau/api.ErrRole", "tableau/api.ErrPlace", "tableau/api.ErrState", "tableau/api.ErrSerial", "tableau/api.ErrFull", "tableau/api.ErrGone", "tableau/api.ErrSheet", "errors.errorType"], apart := false, laid := [("errors.errorType", laid_errors_errorType), ("tableau/api.ErrArg", laid_tableau_api_ErrArg), ("tableau/api.ErrShort", laid_tableau_api_ErrShort), ("tableau/api.ErrBytes", laid_tableau_api_ErrBytes), ("tableau/api.ErrBig", laid_tableau_api_ErrBig), ("tableau/api.ErrObject", laid_tableau_api_ErrObject), ("tableau/api.ErrMethod", laid_tableau_api_ErrMethod), ("tableau/api.ErrFormat", laid_tableau_api_ErrFormat), ("tableau/api.ErrStride", laid_tableau_api_ErrStride), ("tableau/api.ErrFile", laid_tableau_api_ErrFile), ("tableau/api.ErrRole", laid_tableau_api_ErrRole), ("tableau/api.ErrPlace", laid_tableau_api_ErrPlace), ("tableau/api.ErrState", laid_tableau_api_ErrState), ("tableau/api.ErrSerial", laid_tableau_api_ErrSerial), ("tableau/api.ErrFull", laid_tableau_api_ErrFull), ("tableau/api.ErrGone", laid_tableau_api_ErrGone), ("tableau/api.ErrSheet", laid_tableau_api_ErrSheet)], narrowed := true }
def FaultCodesUptoSaid : Prop := faultCodesUptoRow.holds Tryd.pinned (OpenSpec.upto faultCodesSpec)

end Rows
end Go.Proofs.YtplegaadljbhoaaDoor
