/- sig.table: what it answers: eighteen interfaces. No condition. (Printed by gen_sigtab.py.) -/
import Derived.Test.YtagjmkgbfbaekaaDoorBase
import Derived.Test.YtagjmkgbfbaekaaDoorChecked
import Derived.Deep.WholeRow
import Derived.Deep.CutBlock
namespace Go.Proofs.YtagjmkgbfbaekaaDoor
open Go.RowKit
set_option maxRecDepth 100000

section
variable {P : Program} {ops : Array Oper} {rest : List Oper} {o : Oper} {a : Act} {w : World} {Q : Exit → Act → World → Prop}
/-- One operation whose run is known. -/
theorem wpList_val (hg : o.guard = none) (v : Value) (w' : World) (hr : (execOp a.eval o).run P w = .ok (.value v) w') (h : wpList P ops Q rest (a.put o.dst v) w') : wpList P ops Q (o :: rest) a w :=
  wpList_plain hg fun K hK => by
    unfold Oper.wp
    rw [hr]
    exact hK _ _ h
theorem wpList_skip (hg : o.guard = none) (w' : World) (hr : (execOp a.eval o).run P w = .ok .skip w') (h : wpList P ops Q rest (a.put o.dst undef) w') : wpList P ops Q (o :: rest) a w :=
  wpList_plain hg fun K hK => by
    unfold Oper.wp
    rw [hr]
    exact hK _ _ h
/-- .. and makes a block: the world behind it is a letter. -/
theorem wpList_new (hg : o.guard = none) (v : Value) (ob : Obj) (hr : (execOp a.eval o).run P w = .ok (.value v) (w.alloc ob)) (h : ∀ w', Hid (w' = w.alloc ob) → wpList P ops Q rest (a.put o.dst v) w') : wpList P ops Q (o :: rest) a w :=
  wpList_val hg v _ hr (h _ rfl)
end

/-- The document's table, as the code has it: an interface's name, its requests, its events. -/
def nameOf : Nat → ByteArray
  | 1 => ⟨#[119, 108, 95, 100, 105, 115, 112, 108, 97, 121]⟩
  | 2 => ⟨#[119, 108, 95, 114, 101, 103, 105, 115, 116, 114, 121]⟩
  | 3 => ⟨#[119, 108, 95, 99, 97, 108, 108, 98, 97, 99, 107]⟩
  | 4 => ⟨#[119, 108, 95, 99, 111, 109, 112, 111, 115, 105, 116, 111, 114]⟩
  | 5 => ⟨#[119, 108, 95, 115, 104, 109]⟩
  | 6 => ⟨#[119, 108, 95, 115, 104, 109, 95, 112, 111, 111, 108]⟩
  | 7 => ⟨#[119, 108, 95, 98, 117, 102, 102, 101, 114]⟩
  | 8 => ⟨#[119, 108, 95, 115, 117, 114, 102, 97, 99, 101]⟩
  | 9 => ⟨#[119, 108, 95, 114, 101, 103, 105, 111, 110]⟩
  | 10 => ⟨#[119, 108, 95, 115, 117, 98, 99, 111, 109, 112, 111, 115, 105, 116, 111, 114]⟩
  | 11 => ⟨#[119, 108, 95, 115, 117, 98, 115, 117, 114, 102, 97, 99, 101]⟩
  | 12 => ⟨#[119, 108, 95, 115, 101, 97, 116]⟩
  | 13 => ⟨#[119, 108, 95, 112, 111, 105, 110, 116, 101, 114]⟩
  | 14 => ⟨#[119, 108, 95, 107, 101, 121, 98, 111, 97, 114, 100]⟩
  | 15 => ⟨#[120, 100, 103, 95, 119, 109, 95, 98, 97, 115, 101]⟩
  | 16 => ⟨#[120, 100, 103, 95, 115, 117, 114, 102, 97, 99, 101]⟩
  | 17 => ⟨#[120, 100, 103, 95, 116, 111, 112, 108, 101, 118, 101, 108]⟩
  | _ => ⟨#[]⟩
def reqsOf : Nat → List (ByteArray × Int × Bool)
  | 1 => [(⟨#[110]⟩, 3, false), (⟨#[110]⟩, 2, false)]
  | 2 => [(⟨#[117, 115, 117, 110]⟩, 0, false)]
  | 4 => [(⟨#[110]⟩, 8, false), (⟨#[110]⟩, 9, false)]
  | 5 => [(⟨#[110, 117, 105]⟩, 6, false)]
  | 6 => [(⟨#[110, 105, 105, 105, 105, 117]⟩, 7, false), (⟨#[]⟩, 0, true), (⟨#[105]⟩, 0, false)]
  | 7 => [(⟨#[]⟩, 0, true)]
  | 8 => [(⟨#[]⟩, 0, true), (⟨#[111, 105, 105]⟩, 0, false), (⟨#[105, 105, 105, 105]⟩, 0, false), (⟨#[110]⟩, 3, false), (⟨#[111]⟩, 0, false), (⟨#[]⟩, 0, false)]
  | 9 => [(⟨#[]⟩, 0, true), (⟨#[105, 105, 105, 105]⟩, 0, false), (⟨#[105, 105, 105, 105]⟩, 0, false)]
  | 10 => [(⟨#[]⟩, 0, true), (⟨#[110, 111, 111]⟩, 11, false)]
  | 11 => [(⟨#[]⟩, 0, true), (⟨#[105, 105]⟩, 0, false), (⟨#[111]⟩, 0, false), (⟨#[111]⟩, 0, false), (⟨#[]⟩, 0, false), (⟨#[]⟩, 0, false)]
  | 12 => [(⟨#[110]⟩, 13, false), (⟨#[110]⟩, 14, false)]
  | 13 => [(⟨#[]⟩, 0, true)]
  | 14 => [(⟨#[]⟩, 0, true)]
  | 15 => [(⟨#[]⟩, 0, true), (⟨#[110, 111]⟩, 16, false), (⟨#[117]⟩, 0, false)]
  | 16 => [(⟨#[]⟩, 0, true), (⟨#[110]⟩, 17, false), (⟨#[117]⟩, 0, false)]
  | 17 => [(⟨#[]⟩, 0, true), (⟨#[115]⟩, 0, false)]
  | _ => []
def evsOf : Nat → List ByteArray
  | 1 => [⟨#[111, 117, 115]⟩, ⟨#[117]⟩]
  | 2 => [⟨#[117, 115, 117]⟩]
  | 3 => [⟨#[117]⟩]
  | 5 => [⟨#[117]⟩]
  | 7 => [⟨#[]⟩]
  | 12 => [⟨#[117]⟩]
  | 13 => [⟨#[117, 111, 102, 102]⟩, ⟨#[117, 111]⟩, ⟨#[117, 102, 102]⟩, ⟨#[117, 117, 117, 117]⟩]
  | 14 => [⟨#[117, 111]⟩, ⟨#[117, 111]⟩, ⟨#[117, 117, 117, 117]⟩]
  | 15 => [⟨#[117]⟩]
  | 16 => [⟨#[117]⟩]
  | 17 => [⟨#[105, 105]⟩, ⟨#[]⟩]
  | _ => []
def reqCells (l : List (ByteArray × Int × Bool)) : List Value := l.flatMap fun x => [.string x.1, .int .i64 x.2.1, .bool x.2.2]
def tabArr (R E : Nat → Value) : Array Value := ((List.range 18).flatMap fun f => [.string (nameOf f), R f, E f]).toArray
/-- The slices of all interfaces. -/
def From (v : Value) (B : Nat) : Prop := ∀ b off n c, v = .slice (some ⟨b, off, none⟩) n c → B ≤ b
def TabIs (w : World) (B : Nat) (R E : Nat → Value) : Prop := ∀ f, f < 18 → (SlN w w.heap.size 3 (R f) (reqsOf f).length (reqCells (reqsOf f)) ∧ From (R f) B) ∧ SlN w w.heap.size 1 (E f) (evsOf f).length ((evsOf f).map Value.string) ∧ From (E f) B

theorem load_end (w : World) (g : Nat) (x : Value) (y : Value) (z : Value) (h : Blk w g 91 #[x, y, z]) : (Instr.loadAt 91 (.pointer (some ⟨g, 0, none⟩))).run Tryd.prog w = .ok (.agg #[x, y, z]) w := by
  simp only [Instr.loadAt, Instr.sureAddr, Sem.run_bind, Sem.run_pure, Result.andThen_ok]
  exact run_loadVar_row w g 91 91 #[x, y, z] (0, 0) _ h Tryd.underlying91 rfl (by kernel_rfl)

theorem run_load_of {P : Program} {o : Oper} {a : Act} {w : World} {t : TypeId} {x : Operand} {p v : Value} (ho : o.op = .load t x) (hx : a.eval x = p) (hl : (Instr.loadAt t p).run P w = .ok v w) : (execOp a.eval o).run P w = .ok (.value v) w := by
  simp [execOp, ho, hx, hl, Result.andThen]
theorem run_store_of {P : Program} {o : Oper} {a : Act} {w w' : World} {t : TypeId} {x y : Operand} {p v : Value} (ho : o.op = .store t x y) (hx : a.eval x = p) (hy : a.eval y = v) (hs : (Instr.storeAt t p v).run P w = .ok () w') : (execOp a.eval o).run P w = .ok .skip w' := by
  simp [execOp, ho, hx, hy, hs, Result.andThen]
theorem below_step {a b c : World} {ob : Obj} (h : Hid (b = a.alloc ob)) (hb : Below b.heap.size b c) : Below a.heap.size a c := by
  have h1 : Below a.heap.size a b := by rw [h.out]; exact (Below.refl _ _).alloc (Nat.le_refl _) _
  exact h1.trans (hb.mono h1.size)
theorem blk_step {a b c : World} {cs : Array Value} {t : TypeId} (h : Hid (b = a.alloc (.cells cs t))) (hb : Below b.heap.size b c) : Blk c a.heap.size t cs := by
  have h1 : Blk b a.heap.size t cs := by rw [h.out]; exact Blk.new _ _ _
  exact h1.below hb h1.lt
theorem lit_row {c : World} {g n k : Nat} {t : TypeId} {cs : Array Value} (h : Blk c g t cs) (hn : cs.size = n * k) (hm : n ≤ 65536) : SlN c c.heap.size k (.slice (some ⟨g, 0, none⟩) n n) n cs.toList := by
  refine ⟨by simpa using hn, _, n, rfl, Nat.le_refl _, by unfold maxLen; omega, (fun h => by cases h), fun _ => ⟨g, 0, rfl, h.lt, fun j u hu => ?_⟩⟩
  rw [h.cell]
  simpa using hu
theorem store_tab (w : World) (g : Nat) (c c' : Array Value) (h : Blk w g 102 c) (hc : c.size = 54) (hc' : c'.size = 54) (h1 : c'.all (·.oneCell') = true) :
    (Instr.storeAt 102 (.pointer (some ⟨g, 0, none⟩)) (.agg c')).run Tryd.prog w = .ok () (w.setRow g c') := by
  simp only [Instr.storeAt, Instr.sureAddr, Sem.run_bind, Sem.run_pure, Result.andThen_ok]
  exact run_storeVar_row w g 102 102 c c' h (by rw [hc']; kernel_rfl) (by rw [hc, hc']) h1
theorem below_setRow {B g : Nat} {w0 w : World} (hb : Below B w0 w) (hBg : B ≤ g) (cs : Array Value) : Below B w0 (w.setRow g cs) :=
  hb.trans ⟨rfl, rfl, rfl, by simp [World.setRow], fun k hk => setRow_other w g k cs (by omega)⟩
theorem setRow_blk {w : World} {g : Nat} {t : TypeId} {cur : Array Value} (h : Blk w g t cur) (cs : Array Value) : Blk (w.setRow g cs) g t cs := setRow_heap w g cur cs t _ h
theorem setRow_far {w : World} {b : Nat} {t : TypeId} {cur : Array Value} (h : Blk w b t cur) (g : Nat) (cs : Array Value) (hne : b ≠ g) : Blk (w.setRow g cs) b t cur := (setRow_other w g b cs hne).trans h
def mkR (b : Nat → Nat) (f : Nat) : Value := if (reqsOf f).isEmpty then .slice none 0 0 else .slice (some ⟨b f, 0, none⟩) (reqsOf f).length (reqsOf f).length
def mkE (b : Nat → Nat) (f : Nat) : Value := if (evsOf f).isEmpty then .slice none 0 0 else .slice (some ⟨b f, 0, none⟩) (evsOf f).length (evsOf f).length
theorem reqs_small : ∀ f, f < 18 → (reqsOf f).length ≤ 6 ∧ (evsOf f).length ≤ 6 := by decide
theorem reqCells_len (l : List (ByteArray × Int × Bool)) : (reqCells l).length = l.length * 3 := by
  induction l with
  | nil => rfl
  | cons x l ih => simp [reqCells] at ih ⊢; omega
theorem tab_is {w : World} {B : Nat} (b b' : Nat → Nat) (h : ∀ f, f < 18 → reqsOf f ≠ [] → Blk w (b f) 91 (reqCells (reqsOf f)).toArray ∧ B ≤ b f) (h' : ∀ f, f < 18 → evsOf f ≠ [] → Blk w (b' f) 9 ((evsOf f).map Value.string).toArray ∧ B ≤ b' f) :
    TabIs w B (mkR b) (mkE b') := by
  intro f hf
  have hs := reqs_small f hf
  constructor
  · by_cases h0 : reqsOf f = []
    · simp only [mkR, h0, List.isEmpty_nil, if_true]
      exact ⟨⟨by simp [reqCells], none, 0, rfl, Nat.le_refl _, by simp, fun _ => rfl, fun h => absurd h (by simp)⟩, fun _ _ _ _ h => by cases h⟩
    · have : (reqsOf f).isEmpty = false := by simpa using h0
      simp only [mkR, this]
      have := lit_row (k := 3) (n := (reqsOf f).length) (h f hf h0).1 (by simpa using reqCells_len _) (by omega)
      exact ⟨by simpa using this, fun b1 off n c e => by simp at e; have := (h f hf h0).2; omega⟩
  · by_cases h0 : evsOf f = []
    · simp only [mkE, h0, List.isEmpty_nil, if_true]
      exact ⟨⟨by simp, none, 0, rfl, Nat.le_refl _, by simp, fun _ => rfl, fun h => absurd h (by simp)⟩, fun _ _ _ _ h => by cases h⟩
    · have : (evsOf f).isEmpty = false := by simpa using h0
      simp only [mkE, this]
      have := lit_row (k := 1) (n := (evsOf f).length) (h' f hf h0).1 (by simp) (by omega)
      exact ⟨by simpa using this, fun b1 off n c e => by simp at e; have := (h' f hf h0).2; omega⟩
def ZZ : Array Value := #[.string ⟨#[]⟩, .slice none 0 0, .slice none 0 0, .string ⟨#[]⟩, .slice none 0 0, .slice none 0 0, .string ⟨#[]⟩, .slice none 0 0, .slice none 0 0, .string ⟨#[]⟩, .slice none 0 0, .slice none 0 0, .string ⟨#[]⟩, .slice none 0 0, .slice none 0 0, .string ⟨#[]⟩, .slice none 0 0, .slice none 0 0, .string ⟨#[]⟩, .slice none 0 0, .slice none 0 0, .string ⟨#[]⟩, .slice none 0 0, .slice none 0 0, .string ⟨#[]⟩, .slice none 0 0, .slice none 0 0, .string ⟨#[]⟩, .slice none 0 0, .slice none 0 0, .string ⟨#[]⟩, .slice none 0 0, .slice none 0 0, .string ⟨#[]⟩, .slice none 0 0, .slice none 0 0, .string ⟨#[]⟩, .slice none 0 0, .slice none 0 0, .string ⟨#[]⟩, .slice none 0 0, .slice none 0 0, .string ⟨#[]⟩, .slice none 0 0, .slice none 0 0, .string ⟨#[]⟩, .slice none 0 0, .slice none 0 0, .string ⟨#[]⟩, .slice none 0 0, .slice none 0 0, .string ⟨#[]⟩, .slice none 0 0, .slice none 0 0]

set_option maxHeartbeats 6400000 in
theorem table_any (w : World) : Calls Tryd.prog 56 #[] w fun e w' => ∃ R E : Nat → Value, e = .returned (.agg (tabArr R E)) ∧ TabIs w' w.heap.size R E ∧ Below w.heap.size w w' := by
  go_enter Tryd.func56, Tryd.ntmps56
  go_upto_region 2 with (fail)
  go_upto_region 2 with (fail)
  rename_i K hK
  have eZ := Blk.alloc (Blk.new w 102 ZZ) (.cells #[.string ⟨#[]⟩, .int .i64 0, .bool true] 91)
  have e0 : Blk ((w.alloc (.cells ZZ 102)).alloc (.cells #[.string ⟨#[]⟩, .int .i64 0, .bool true] 91)) (w.heap.size + 1) 91 #[.string ⟨#[]⟩, .int .i64 0, .bool true] := by
    have := Blk.new (w.alloc (.cells ZZ 102)) 91 #[.string ⟨#[]⟩, .int .i64 0, .bool true]
    simpa using this
  have z0 : w.heap.size + 2 ≤ ((w.alloc (.cells ZZ 102)).alloc (.cells #[.string ⟨#[]⟩, .int .i64 0, .bool true] 91)).heap.size := by simp
  have q0 : Below w.heap.size w ((w.alloc (.cells ZZ 102)).alloc (.cells #[.string ⟨#[]⟩, .int .i64 0, .bool true] 91)) := ((Below.refl _ _).alloc (Nat.le_refl _) _).alloc (by simp) _
  unfold ZZ at eZ e0 z0 q0
  generalize ((w.alloc (Obj.cells _ _)).alloc (Obj.cells _ _)) = W0 at eZ e0 z0 q0 ⊢
  have HZ := Lib.hid eZ
  have H0 := Lib.hid e0
  clear eZ e0
  apply wp_region_lit
  refine wpList_val rfl (.agg #[(.string ⟨#[110]⟩), .int .i64 3, .bool false]) W0 (by kernel_rfl) ?_
  refine wpList_val rfl (.agg #[(.string ⟨#[110]⟩), .int .i64 2, .bool false]) W0 (by kernel_rfl) ?_
  refine wpList_new rfl (.slice (some ⟨W0.heap.size, 0, none⟩) 2 2) (.cells #[(.string ⟨#[110]⟩), .int .i64 3, .bool false, (.string ⟨#[110]⟩), .int .i64 2, .bool false] 91) (by kernel_rfl) ?_
  intro W1 h1
  have H1 : Hid (Blk W1 (w.heap.size + 1) 91 #[.string ⟨#[]⟩, .int .i64 0, .bool true]) := by rw [h1.out]; exact H0.out.alloc _
  have z1 : w.heap.size + 2 ≤ W1.heap.size := by rw [h1.out]; simp; omega
  refine wpList_new rfl (.slice (some ⟨W1.heap.size, 0, none⟩) 2 2) (.cells #[.string ⟨#[111, 117, 115]⟩, .string ⟨#[117]⟩] 9) (by kernel_rfl) ?_
  intro W2 h2
  have H2 : Hid (Blk W2 (w.heap.size + 1) 91 #[.string ⟨#[]⟩, .int .i64 0, .bool true]) := by rw [h2.out]; exact H1.out.alloc _
  have z2 : w.heap.size + 2 ≤ W2.heap.size := by rw [h2.out]; simp; omega
  refine wpList_val rfl (.agg #[.string ⟨#[119, 108, 95, 100, 105, 115, 112, 108, 97, 121]⟩, .slice (some ⟨W0.heap.size, 0, none⟩) 2 2, .slice (some ⟨W1.heap.size, 0, none⟩) 2 2]) W2 (by kernel_rfl) ?_
  refine wpList_val rfl (.agg #[(.string ⟨#[117, 115, 117, 110]⟩), .int .i64 0, .bool false]) W2 (by kernel_rfl) ?_
  refine wpList_new rfl (.slice (some ⟨W2.heap.size, 0, none⟩) 1 1) (.cells #[(.string ⟨#[117, 115, 117, 110]⟩), .int .i64 0, .bool false] 91) (by kernel_rfl) ?_
  intro W3 h3
  have H3 : Hid (Blk W3 (w.heap.size + 1) 91 #[.string ⟨#[]⟩, .int .i64 0, .bool true]) := by rw [h3.out]; exact H2.out.alloc _
  have z3 : w.heap.size + 2 ≤ W3.heap.size := by rw [h3.out]; simp; omega
  refine wpList_new rfl (.slice (some ⟨W3.heap.size, 0, none⟩) 1 1) (.cells #[.string ⟨#[117, 115, 117]⟩] 9) (by kernel_rfl) ?_
  intro W4 h4
  have H4 : Hid (Blk W4 (w.heap.size + 1) 91 #[.string ⟨#[]⟩, .int .i64 0, .bool true]) := by rw [h4.out]; exact H3.out.alloc _
  have z4 : w.heap.size + 2 ≤ W4.heap.size := by rw [h4.out]; simp; omega
  refine wpList_val rfl (.agg #[.string ⟨#[119, 108, 95, 114, 101, 103, 105, 115, 116, 114, 121]⟩, .slice (some ⟨W2.heap.size, 0, none⟩) 1 1, .slice (some ⟨W3.heap.size, 0, none⟩) 1 1]) W4 (by kernel_rfl) ?_
  refine wpList_new rfl (.slice (some ⟨W4.heap.size, 0, none⟩) 1 1) (.cells #[.string ⟨#[117]⟩] 9) (by kernel_rfl) ?_
  intro W5 h5
  have H5 : Hid (Blk W5 (w.heap.size + 1) 91 #[.string ⟨#[]⟩, .int .i64 0, .bool true]) := by rw [h5.out]; exact H4.out.alloc _
  have z5 : w.heap.size + 2 ≤ W5.heap.size := by rw [h5.out]; simp; omega
  refine wpList_val rfl (.agg #[.string ⟨#[119, 108, 95, 99, 97, 108, 108, 98, 97, 99, 107]⟩, .slice none 0 0, .slice (some ⟨W4.heap.size, 0, none⟩) 1 1]) W5 (by kernel_rfl) ?_
  refine wpList_val rfl (.agg #[(.string ⟨#[110]⟩), .int .i64 8, .bool false]) W5 (by kernel_rfl) ?_
  refine wpList_val rfl (.agg #[(.string ⟨#[110]⟩), .int .i64 9, .bool false]) W5 (by kernel_rfl) ?_
  refine wpList_new rfl (.slice (some ⟨W5.heap.size, 0, none⟩) 2 2) (.cells #[(.string ⟨#[110]⟩), .int .i64 8, .bool false, (.string ⟨#[110]⟩), .int .i64 9, .bool false] 91) (by kernel_rfl) ?_
  intro W6 h6
  have H6 : Hid (Blk W6 (w.heap.size + 1) 91 #[.string ⟨#[]⟩, .int .i64 0, .bool true]) := by rw [h6.out]; exact H5.out.alloc _
  have z6 : w.heap.size + 2 ≤ W6.heap.size := by rw [h6.out]; simp; omega
  refine wpList_val rfl (.agg #[.string ⟨#[119, 108, 95, 99, 111, 109, 112, 111, 115, 105, 116, 111, 114]⟩, .slice (some ⟨W5.heap.size, 0, none⟩) 2 2, .slice none 0 0]) W6 (by kernel_rfl) ?_
  refine wpList_val rfl (.agg #[(.string ⟨#[110, 117, 105]⟩), .int .i64 6, .bool false]) W6 (by kernel_rfl) ?_
  refine wpList_new rfl (.slice (some ⟨W6.heap.size, 0, none⟩) 1 1) (.cells #[(.string ⟨#[110, 117, 105]⟩), .int .i64 6, .bool false] 91) (by kernel_rfl) ?_
  intro W7 h7
  have H7 : Hid (Blk W7 (w.heap.size + 1) 91 #[.string ⟨#[]⟩, .int .i64 0, .bool true]) := by rw [h7.out]; exact H6.out.alloc _
  have z7 : w.heap.size + 2 ≤ W7.heap.size := by rw [h7.out]; simp; omega
  refine wpList_new rfl (.slice (some ⟨W7.heap.size, 0, none⟩) 1 1) (.cells #[.string ⟨#[117]⟩] 9) (by kernel_rfl) ?_
  intro W8 h8
  have H8 : Hid (Blk W8 (w.heap.size + 1) 91 #[.string ⟨#[]⟩, .int .i64 0, .bool true]) := by rw [h8.out]; exact H7.out.alloc _
  have z8 : w.heap.size + 2 ≤ W8.heap.size := by rw [h8.out]; simp; omega
  refine wpList_val rfl (.agg #[.string ⟨#[119, 108, 95, 115, 104, 109]⟩, .slice (some ⟨W6.heap.size, 0, none⟩) 1 1, .slice (some ⟨W7.heap.size, 0, none⟩) 1 1]) W8 (by kernel_rfl) ?_
  refine wpList_val rfl (.agg #[(.string ⟨#[110, 105, 105, 105, 105, 117]⟩), .int .i64 7, .bool false]) W8 (by kernel_rfl) ?_
  refine wpList_val rfl (.agg #[.string ⟨#[]⟩, .int .i64 0, .bool true]) W8 (run_load_of rfl (by kernel_rfl) (load_end W8 (w.heap.size + 1) _ _ _ H8.out)) ?_
  refine wpList_val rfl (.agg #[(.string ⟨#[105]⟩), .int .i64 0, .bool false]) W8 (by kernel_rfl) ?_
  refine wpList_new rfl (.slice (some ⟨W8.heap.size, 0, none⟩) 3 3) (.cells #[(.string ⟨#[110, 105, 105, 105, 105, 117]⟩), .int .i64 7, .bool false, (.string ⟨#[]⟩), .int .i64 0, .bool true, (.string ⟨#[105]⟩), .int .i64 0, .bool false] 91) (by kernel_rfl) ?_
  intro W9 h9
  have H9 : Hid (Blk W9 (w.heap.size + 1) 91 #[.string ⟨#[]⟩, .int .i64 0, .bool true]) := by rw [h9.out]; exact H8.out.alloc _
  have z9 : w.heap.size + 2 ≤ W9.heap.size := by rw [h9.out]; simp; omega
  refine wpList_val rfl (.agg #[.string ⟨#[119, 108, 95, 115, 104, 109, 95, 112, 111, 111, 108]⟩, .slice (some ⟨W8.heap.size, 0, none⟩) 3 3, .slice none 0 0]) W9 (by kernel_rfl) ?_
  refine wpList_val rfl (.agg #[.string ⟨#[]⟩, .int .i64 0, .bool true]) W9 (run_load_of rfl (by kernel_rfl) (load_end W9 (w.heap.size + 1) _ _ _ H9.out)) ?_
  refine wpList_new rfl (.slice (some ⟨W9.heap.size, 0, none⟩) 1 1) (.cells #[(.string ⟨#[]⟩), .int .i64 0, .bool true] 91) (by kernel_rfl) ?_
  intro W10 h10
  have H10 : Hid (Blk W10 (w.heap.size + 1) 91 #[.string ⟨#[]⟩, .int .i64 0, .bool true]) := by rw [h10.out]; exact H9.out.alloc _
  have z10 : w.heap.size + 2 ≤ W10.heap.size := by rw [h10.out]; simp; omega
  refine wpList_new rfl (.slice (some ⟨W10.heap.size, 0, none⟩) 1 1) (.cells #[.string ⟨#[]⟩] 9) (by kernel_rfl) ?_
  intro W11 h11
  have H11 : Hid (Blk W11 (w.heap.size + 1) 91 #[.string ⟨#[]⟩, .int .i64 0, .bool true]) := by rw [h11.out]; exact H10.out.alloc _
  have z11 : w.heap.size + 2 ≤ W11.heap.size := by rw [h11.out]; simp; omega
  refine wpList_val rfl (.agg #[.string ⟨#[119, 108, 95, 98, 117, 102, 102, 101, 114]⟩, .slice (some ⟨W9.heap.size, 0, none⟩) 1 1, .slice (some ⟨W10.heap.size, 0, none⟩) 1 1]) W11 (by kernel_rfl) ?_
  refine wpList_val rfl (.agg #[.string ⟨#[]⟩, .int .i64 0, .bool true]) W11 (run_load_of rfl (by kernel_rfl) (load_end W11 (w.heap.size + 1) _ _ _ H11.out)) ?_
  refine wpList_val rfl (.agg #[(.string ⟨#[111, 105, 105]⟩), .int .i64 0, .bool false]) W11 (by kernel_rfl) ?_
  refine wpList_val rfl (.agg #[(.string ⟨#[105, 105, 105, 105]⟩), .int .i64 0, .bool false]) W11 (by kernel_rfl) ?_
  refine wpList_val rfl (.agg #[(.string ⟨#[110]⟩), .int .i64 3, .bool false]) W11 (by kernel_rfl) ?_
  refine wpList_val rfl (.agg #[(.string ⟨#[111]⟩), .int .i64 0, .bool false]) W11 (by kernel_rfl) ?_
  refine wpList_val rfl (.agg #[(.string ⟨#[]⟩), .int .i64 0, .bool false]) W11 (by kernel_rfl) ?_
  refine wpList_new rfl (.slice (some ⟨W11.heap.size, 0, none⟩) 6 6) (.cells #[(.string ⟨#[]⟩), .int .i64 0, .bool true, (.string ⟨#[111, 105, 105]⟩), .int .i64 0, .bool false, (.string ⟨#[105, 105, 105, 105]⟩), .int .i64 0, .bool false, (.string ⟨#[110]⟩), .int .i64 3, .bool false, (.string ⟨#[111]⟩), .int .i64 0, .bool false, (.string ⟨#[]⟩), .int .i64 0, .bool false] 91) (by kernel_rfl) ?_
  intro W12 h12
  have H12 : Hid (Blk W12 (w.heap.size + 1) 91 #[.string ⟨#[]⟩, .int .i64 0, .bool true]) := by rw [h12.out]; exact H11.out.alloc _
  have z12 : w.heap.size + 2 ≤ W12.heap.size := by rw [h12.out]; simp; omega
  refine wpList_val rfl (.agg #[.string ⟨#[119, 108, 95, 115, 117, 114, 102, 97, 99, 101]⟩, .slice (some ⟨W11.heap.size, 0, none⟩) 6 6, .slice none 0 0]) W12 (by kernel_rfl) ?_
  refine wpList_val rfl (.agg #[.string ⟨#[]⟩, .int .i64 0, .bool true]) W12 (run_load_of rfl (by kernel_rfl) (load_end W12 (w.heap.size + 1) _ _ _ H12.out)) ?_
  refine wpList_val rfl (.agg #[(.string ⟨#[105, 105, 105, 105]⟩), .int .i64 0, .bool false]) W12 (by kernel_rfl) ?_
  refine wpList_val rfl (.agg #[(.string ⟨#[105, 105, 105, 105]⟩), .int .i64 0, .bool false]) W12 (by kernel_rfl) ?_
  refine wpList_new rfl (.slice (some ⟨W12.heap.size, 0, none⟩) 3 3) (.cells #[(.string ⟨#[]⟩), .int .i64 0, .bool true, (.string ⟨#[105, 105, 105, 105]⟩), .int .i64 0, .bool false, (.string ⟨#[105, 105, 105, 105]⟩), .int .i64 0, .bool false] 91) (by kernel_rfl) ?_
  intro W13 h13
  have H13 : Hid (Blk W13 (w.heap.size + 1) 91 #[.string ⟨#[]⟩, .int .i64 0, .bool true]) := by rw [h13.out]; exact H12.out.alloc _
  have z13 : w.heap.size + 2 ≤ W13.heap.size := by rw [h13.out]; simp; omega
  refine wpList_val rfl (.agg #[.string ⟨#[119, 108, 95, 114, 101, 103, 105, 111, 110]⟩, .slice (some ⟨W12.heap.size, 0, none⟩) 3 3, .slice none 0 0]) W13 (by kernel_rfl) ?_
  refine wpList_val rfl (.agg #[.string ⟨#[]⟩, .int .i64 0, .bool true]) W13 (run_load_of rfl (by kernel_rfl) (load_end W13 (w.heap.size + 1) _ _ _ H13.out)) ?_
  refine wpList_val rfl (.agg #[(.string ⟨#[110, 111, 111]⟩), .int .i64 11, .bool false]) W13 (by kernel_rfl) ?_
  refine wpList_new rfl (.slice (some ⟨W13.heap.size, 0, none⟩) 2 2) (.cells #[(.string ⟨#[]⟩), .int .i64 0, .bool true, (.string ⟨#[110, 111, 111]⟩), .int .i64 11, .bool false] 91) (by kernel_rfl) ?_
  intro W14 h14
  have H14 : Hid (Blk W14 (w.heap.size + 1) 91 #[.string ⟨#[]⟩, .int .i64 0, .bool true]) := by rw [h14.out]; exact H13.out.alloc _
  have z14 : w.heap.size + 2 ≤ W14.heap.size := by rw [h14.out]; simp; omega
  refine wpList_val rfl (.agg #[.string ⟨#[119, 108, 95, 115, 117, 98, 99, 111, 109, 112, 111, 115, 105, 116, 111, 114]⟩, .slice (some ⟨W13.heap.size, 0, none⟩) 2 2, .slice none 0 0]) W14 (by kernel_rfl) ?_
  refine wpList_val rfl (.agg #[.string ⟨#[]⟩, .int .i64 0, .bool true]) W14 (run_load_of rfl (by kernel_rfl) (load_end W14 (w.heap.size + 1) _ _ _ H14.out)) ?_
  refine wpList_val rfl (.agg #[(.string ⟨#[105, 105]⟩), .int .i64 0, .bool false]) W14 (by kernel_rfl) ?_
  refine wpList_val rfl (.agg #[(.string ⟨#[111]⟩), .int .i64 0, .bool false]) W14 (by kernel_rfl) ?_
  refine wpList_val rfl (.agg #[(.string ⟨#[111]⟩), .int .i64 0, .bool false]) W14 (by kernel_rfl) ?_
  refine wpList_val rfl (.agg #[(.string ⟨#[]⟩), .int .i64 0, .bool false]) W14 (by kernel_rfl) ?_
  refine wpList_val rfl (.agg #[(.string ⟨#[]⟩), .int .i64 0, .bool false]) W14 (by kernel_rfl) ?_
  refine wpList_new rfl (.slice (some ⟨W14.heap.size, 0, none⟩) 6 6) (.cells #[(.string ⟨#[]⟩), .int .i64 0, .bool true, (.string ⟨#[105, 105]⟩), .int .i64 0, .bool false, (.string ⟨#[111]⟩), .int .i64 0, .bool false, (.string ⟨#[111]⟩), .int .i64 0, .bool false, (.string ⟨#[]⟩), .int .i64 0, .bool false, (.string ⟨#[]⟩), .int .i64 0, .bool false] 91) (by kernel_rfl) ?_
  intro W15 h15
  have H15 : Hid (Blk W15 (w.heap.size + 1) 91 #[.string ⟨#[]⟩, .int .i64 0, .bool true]) := by rw [h15.out]; exact H14.out.alloc _
  have z15 : w.heap.size + 2 ≤ W15.heap.size := by rw [h15.out]; simp; omega
  refine wpList_val rfl (.agg #[.string ⟨#[119, 108, 95, 115, 117, 98, 115, 117, 114, 102, 97, 99, 101]⟩, .slice (some ⟨W14.heap.size, 0, none⟩) 6 6, .slice none 0 0]) W15 (by kernel_rfl) ?_
  refine wpList_val rfl (.agg #[(.string ⟨#[110]⟩), .int .i64 13, .bool false]) W15 (by kernel_rfl) ?_
  refine wpList_val rfl (.agg #[(.string ⟨#[110]⟩), .int .i64 14, .bool false]) W15 (by kernel_rfl) ?_
  refine wpList_new rfl (.slice (some ⟨W15.heap.size, 0, none⟩) 2 2) (.cells #[(.string ⟨#[110]⟩), .int .i64 13, .bool false, (.string ⟨#[110]⟩), .int .i64 14, .bool false] 91) (by kernel_rfl) ?_
  intro W16 h16
  have H16 : Hid (Blk W16 (w.heap.size + 1) 91 #[.string ⟨#[]⟩, .int .i64 0, .bool true]) := by rw [h16.out]; exact H15.out.alloc _
  have z16 : w.heap.size + 2 ≤ W16.heap.size := by rw [h16.out]; simp; omega
  refine wpList_new rfl (.slice (some ⟨W16.heap.size, 0, none⟩) 1 1) (.cells #[.string ⟨#[117]⟩] 9) (by kernel_rfl) ?_
  intro W17 h17
  have H17 : Hid (Blk W17 (w.heap.size + 1) 91 #[.string ⟨#[]⟩, .int .i64 0, .bool true]) := by rw [h17.out]; exact H16.out.alloc _
  have z17 : w.heap.size + 2 ≤ W17.heap.size := by rw [h17.out]; simp; omega
  refine wpList_val rfl (.agg #[.string ⟨#[119, 108, 95, 115, 101, 97, 116]⟩, .slice (some ⟨W15.heap.size, 0, none⟩) 2 2, .slice (some ⟨W16.heap.size, 0, none⟩) 1 1]) W17 (by kernel_rfl) ?_
  refine wpList_val rfl (.agg #[.string ⟨#[]⟩, .int .i64 0, .bool true]) W17 (run_load_of rfl (by kernel_rfl) (load_end W17 (w.heap.size + 1) _ _ _ H17.out)) ?_
  refine wpList_new rfl (.slice (some ⟨W17.heap.size, 0, none⟩) 1 1) (.cells #[(.string ⟨#[]⟩), .int .i64 0, .bool true] 91) (by kernel_rfl) ?_
  intro W18 h18
  have H18 : Hid (Blk W18 (w.heap.size + 1) 91 #[.string ⟨#[]⟩, .int .i64 0, .bool true]) := by rw [h18.out]; exact H17.out.alloc _
  have z18 : w.heap.size + 2 ≤ W18.heap.size := by rw [h18.out]; simp; omega
  refine wpList_new rfl (.slice (some ⟨W18.heap.size, 0, none⟩) 4 4) (.cells #[.string ⟨#[117, 111, 102, 102]⟩, .string ⟨#[117, 111]⟩, .string ⟨#[117, 102, 102]⟩, .string ⟨#[117, 117, 117, 117]⟩] 9) (by kernel_rfl) ?_
  intro W19 h19
  have H19 : Hid (Blk W19 (w.heap.size + 1) 91 #[.string ⟨#[]⟩, .int .i64 0, .bool true]) := by rw [h19.out]; exact H18.out.alloc _
  have z19 : w.heap.size + 2 ≤ W19.heap.size := by rw [h19.out]; simp; omega
  refine wpList_val rfl (.agg #[.string ⟨#[119, 108, 95, 112, 111, 105, 110, 116, 101, 114]⟩, .slice (some ⟨W17.heap.size, 0, none⟩) 1 1, .slice (some ⟨W18.heap.size, 0, none⟩) 4 4]) W19 (by kernel_rfl) ?_
  refine wpList_val rfl (.agg #[.string ⟨#[]⟩, .int .i64 0, .bool true]) W19 (run_load_of rfl (by kernel_rfl) (load_end W19 (w.heap.size + 1) _ _ _ H19.out)) ?_
  refine wpList_new rfl (.slice (some ⟨W19.heap.size, 0, none⟩) 1 1) (.cells #[(.string ⟨#[]⟩), .int .i64 0, .bool true] 91) (by kernel_rfl) ?_
  intro W20 h20
  have H20 : Hid (Blk W20 (w.heap.size + 1) 91 #[.string ⟨#[]⟩, .int .i64 0, .bool true]) := by rw [h20.out]; exact H19.out.alloc _
  have z20 : w.heap.size + 2 ≤ W20.heap.size := by rw [h20.out]; simp; omega
  refine wpList_new rfl (.slice (some ⟨W20.heap.size, 0, none⟩) 3 3) (.cells #[.string ⟨#[117, 111]⟩, .string ⟨#[117, 111]⟩, .string ⟨#[117, 117, 117, 117]⟩] 9) (by kernel_rfl) ?_
  intro W21 h21
  have H21 : Hid (Blk W21 (w.heap.size + 1) 91 #[.string ⟨#[]⟩, .int .i64 0, .bool true]) := by rw [h21.out]; exact H20.out.alloc _
  have z21 : w.heap.size + 2 ≤ W21.heap.size := by rw [h21.out]; simp; omega
  refine wpList_val rfl (.agg #[.string ⟨#[119, 108, 95, 107, 101, 121, 98, 111, 97, 114, 100]⟩, .slice (some ⟨W19.heap.size, 0, none⟩) 1 1, .slice (some ⟨W20.heap.size, 0, none⟩) 3 3]) W21 (by kernel_rfl) ?_
  refine wpList_val rfl (.agg #[.string ⟨#[]⟩, .int .i64 0, .bool true]) W21 (run_load_of rfl (by kernel_rfl) (load_end W21 (w.heap.size + 1) _ _ _ H21.out)) ?_
  refine wpList_val rfl (.agg #[(.string ⟨#[110, 111]⟩), .int .i64 16, .bool false]) W21 (by kernel_rfl) ?_
  refine wpList_val rfl (.agg #[(.string ⟨#[117]⟩), .int .i64 0, .bool false]) W21 (by kernel_rfl) ?_
  refine wpList_new rfl (.slice (some ⟨W21.heap.size, 0, none⟩) 3 3) (.cells #[(.string ⟨#[]⟩), .int .i64 0, .bool true, (.string ⟨#[110, 111]⟩), .int .i64 16, .bool false, (.string ⟨#[117]⟩), .int .i64 0, .bool false] 91) (by kernel_rfl) ?_
  intro W22 h22
  have H22 : Hid (Blk W22 (w.heap.size + 1) 91 #[.string ⟨#[]⟩, .int .i64 0, .bool true]) := by rw [h22.out]; exact H21.out.alloc _
  have z22 : w.heap.size + 2 ≤ W22.heap.size := by rw [h22.out]; simp; omega
  refine wpList_new rfl (.slice (some ⟨W22.heap.size, 0, none⟩) 1 1) (.cells #[.string ⟨#[117]⟩] 9) (by kernel_rfl) ?_
  intro W23 h23
  have H23 : Hid (Blk W23 (w.heap.size + 1) 91 #[.string ⟨#[]⟩, .int .i64 0, .bool true]) := by rw [h23.out]; exact H22.out.alloc _
  have z23 : w.heap.size + 2 ≤ W23.heap.size := by rw [h23.out]; simp; omega
  refine wpList_val rfl (.agg #[.string ⟨#[120, 100, 103, 95, 119, 109, 95, 98, 97, 115, 101]⟩, .slice (some ⟨W21.heap.size, 0, none⟩) 3 3, .slice (some ⟨W22.heap.size, 0, none⟩) 1 1]) W23 (by kernel_rfl) ?_
  refine wpList_val rfl (.agg #[.string ⟨#[]⟩, .int .i64 0, .bool true]) W23 (run_load_of rfl (by kernel_rfl) (load_end W23 (w.heap.size + 1) _ _ _ H23.out)) ?_
  refine wpList_val rfl (.agg #[(.string ⟨#[110]⟩), .int .i64 17, .bool false]) W23 (by kernel_rfl) ?_
  refine wpList_val rfl (.agg #[(.string ⟨#[117]⟩), .int .i64 0, .bool false]) W23 (by kernel_rfl) ?_
  refine wpList_new rfl (.slice (some ⟨W23.heap.size, 0, none⟩) 3 3) (.cells #[(.string ⟨#[]⟩), .int .i64 0, .bool true, (.string ⟨#[110]⟩), .int .i64 17, .bool false, (.string ⟨#[117]⟩), .int .i64 0, .bool false] 91) (by kernel_rfl) ?_
  intro W24 h24
  have H24 : Hid (Blk W24 (w.heap.size + 1) 91 #[.string ⟨#[]⟩, .int .i64 0, .bool true]) := by rw [h24.out]; exact H23.out.alloc _
  have z24 : w.heap.size + 2 ≤ W24.heap.size := by rw [h24.out]; simp; omega
  refine wpList_new rfl (.slice (some ⟨W24.heap.size, 0, none⟩) 1 1) (.cells #[.string ⟨#[117]⟩] 9) (by kernel_rfl) ?_
  intro W25 h25
  have H25 : Hid (Blk W25 (w.heap.size + 1) 91 #[.string ⟨#[]⟩, .int .i64 0, .bool true]) := by rw [h25.out]; exact H24.out.alloc _
  have z25 : w.heap.size + 2 ≤ W25.heap.size := by rw [h25.out]; simp; omega
  refine wpList_val rfl (.agg #[.string ⟨#[120, 100, 103, 95, 115, 117, 114, 102, 97, 99, 101]⟩, .slice (some ⟨W23.heap.size, 0, none⟩) 3 3, .slice (some ⟨W24.heap.size, 0, none⟩) 1 1]) W25 (by kernel_rfl) ?_
  refine wpList_val rfl (.agg #[.string ⟨#[]⟩, .int .i64 0, .bool true]) W25 (run_load_of rfl (by kernel_rfl) (load_end W25 (w.heap.size + 1) _ _ _ H25.out)) ?_
  refine wpList_val rfl (.agg #[(.string ⟨#[115]⟩), .int .i64 0, .bool false]) W25 (by kernel_rfl) ?_
  refine wpList_new rfl (.slice (some ⟨W25.heap.size, 0, none⟩) 2 2) (.cells #[(.string ⟨#[]⟩), .int .i64 0, .bool true, (.string ⟨#[115]⟩), .int .i64 0, .bool false] 91) (by kernel_rfl) ?_
  intro W26 h26
  have H26 : Hid (Blk W26 (w.heap.size + 1) 91 #[.string ⟨#[]⟩, .int .i64 0, .bool true]) := by rw [h26.out]; exact H25.out.alloc _
  have z26 : w.heap.size + 2 ≤ W26.heap.size := by rw [h26.out]; simp; omega
  refine wpList_new rfl (.slice (some ⟨W26.heap.size, 0, none⟩) 2 2) (.cells #[.string ⟨#[105, 105]⟩, .string ⟨#[]⟩] 9) (by kernel_rfl) ?_
  intro W27 h27
  have H27 : Hid (Blk W27 (w.heap.size + 1) 91 #[.string ⟨#[]⟩, .int .i64 0, .bool true]) := by rw [h27.out]; exact H26.out.alloc _
  have z27 : w.heap.size + 2 ≤ W27.heap.size := by rw [h27.out]; simp; omega
  refine wpList_val rfl (.agg #[.string ⟨#[120, 100, 103, 95, 116, 111, 112, 108, 101, 118, 101, 108]⟩, .slice (some ⟨W25.heap.size, 0, none⟩) 2 2, .slice (some ⟨W26.heap.size, 0, none⟩) 2 2]) W27 (by kernel_rfl) ?_
  refine wpList_val rfl (.agg #[.string ⟨#[]⟩, .slice none 0 0, .slice none 0 0, .string ⟨#[119, 108, 95, 100, 105, 115, 112, 108, 97, 121]⟩, .slice (some ⟨W0.heap.size, 0, none⟩) 2 2, .slice (some ⟨W1.heap.size, 0, none⟩) 2 2, .string ⟨#[119, 108, 95, 114, 101, 103, 105, 115, 116, 114, 121]⟩, .slice (some ⟨W2.heap.size, 0, none⟩) 1 1, .slice (some ⟨W3.heap.size, 0, none⟩) 1 1, .string ⟨#[119, 108, 95, 99, 97, 108, 108, 98, 97, 99, 107]⟩, .slice none 0 0, .slice (some ⟨W4.heap.size, 0, none⟩) 1 1, .string ⟨#[119, 108, 95, 99, 111, 109, 112, 111, 115, 105, 116, 111, 114]⟩, .slice (some ⟨W5.heap.size, 0, none⟩) 2 2, .slice none 0 0, .string ⟨#[119, 108, 95, 115, 104, 109]⟩, .slice (some ⟨W6.heap.size, 0, none⟩) 1 1, .slice (some ⟨W7.heap.size, 0, none⟩) 1 1, .string ⟨#[119, 108, 95, 115, 104, 109, 95, 112, 111, 111, 108]⟩, .slice (some ⟨W8.heap.size, 0, none⟩) 3 3, .slice none 0 0, .string ⟨#[119, 108, 95, 98, 117, 102, 102, 101, 114]⟩, .slice (some ⟨W9.heap.size, 0, none⟩) 1 1, .slice (some ⟨W10.heap.size, 0, none⟩) 1 1, .string ⟨#[119, 108, 95, 115, 117, 114, 102, 97, 99, 101]⟩, .slice (some ⟨W11.heap.size, 0, none⟩) 6 6, .slice none 0 0, .string ⟨#[119, 108, 95, 114, 101, 103, 105, 111, 110]⟩, .slice (some ⟨W12.heap.size, 0, none⟩) 3 3, .slice none 0 0, .string ⟨#[119, 108, 95, 115, 117, 98, 99, 111, 109, 112, 111, 115, 105, 116, 111, 114]⟩, .slice (some ⟨W13.heap.size, 0, none⟩) 2 2, .slice none 0 0, .string ⟨#[119, 108, 95, 115, 117, 98, 115, 117, 114, 102, 97, 99, 101]⟩, .slice (some ⟨W14.heap.size, 0, none⟩) 6 6, .slice none 0 0, .string ⟨#[119, 108, 95, 115, 101, 97, 116]⟩, .slice (some ⟨W15.heap.size, 0, none⟩) 2 2, .slice (some ⟨W16.heap.size, 0, none⟩) 1 1, .string ⟨#[119, 108, 95, 112, 111, 105, 110, 116, 101, 114]⟩, .slice (some ⟨W17.heap.size, 0, none⟩) 1 1, .slice (some ⟨W18.heap.size, 0, none⟩) 4 4, .string ⟨#[119, 108, 95, 107, 101, 121, 98, 111, 97, 114, 100]⟩, .slice (some ⟨W19.heap.size, 0, none⟩) 1 1, .slice (some ⟨W20.heap.size, 0, none⟩) 3 3, .string ⟨#[120, 100, 103, 95, 119, 109, 95, 98, 97, 115, 101]⟩, .slice (some ⟨W21.heap.size, 0, none⟩) 3 3, .slice (some ⟨W22.heap.size, 0, none⟩) 1 1, .string ⟨#[120, 100, 103, 95, 115, 117, 114, 102, 97, 99, 101]⟩, .slice (some ⟨W23.heap.size, 0, none⟩) 3 3, .slice (some ⟨W24.heap.size, 0, none⟩) 1 1, .string ⟨#[120, 100, 103, 95, 116, 111, 112, 108, 101, 118, 101, 108]⟩, .slice (some ⟨W25.heap.size, 0, none⟩) 2 2, .slice (some ⟨W26.heap.size, 0, none⟩) 2 2]) W27 (by kernel_rfl) ?_
  have c27 : Below W27.heap.size W27 W27 := Below.refl _ _
  have c26 := below_step h27 c27
  have c25 := below_step h26 c26
  have c24 := below_step h25 c25
  have c23 := below_step h24 c24
  have c22 := below_step h23 c23
  have c21 := below_step h22 c22
  have c20 := below_step h21 c21
  have c19 := below_step h20 c20
  have c18 := below_step h19 c19
  have c17 := below_step h18 c18
  have c16 := below_step h17 c17
  have c15 := below_step h16 c16
  have c14 := below_step h15 c15
  have c13 := below_step h14 c14
  have c12 := below_step h13 c13
  have c11 := below_step h12 c12
  have c10 := below_step h11 c11
  have c9 := below_step h10 c10
  have c8 := below_step h9 c9
  have c7 := below_step h8 c8
  have c6 := below_step h7 c7
  have c5 := below_step h6 c6
  have c4 := below_step h5 c5
  have c3 := below_step h4 c4
  have c2 := below_step h3 c3
  have c1 := below_step h2 c2
  have c0 := below_step h1 c1
  obtain ⟨CS, hCS⟩ : ∃ CS : Array Value, CS = #[.string ⟨#[]⟩, .slice none 0 0, .slice none 0 0, .string ⟨#[119, 108, 95, 100, 105, 115, 112, 108, 97, 121]⟩, .slice (some ⟨W0.heap.size, 0, none⟩) 2 2, .slice (some ⟨W1.heap.size, 0, none⟩) 2 2, .string ⟨#[119, 108, 95, 114, 101, 103, 105, 115, 116, 114, 121]⟩, .slice (some ⟨W2.heap.size, 0, none⟩) 1 1, .slice (some ⟨W3.heap.size, 0, none⟩) 1 1, .string ⟨#[119, 108, 95, 99, 97, 108, 108, 98, 97, 99, 107]⟩, .slice none 0 0, .slice (some ⟨W4.heap.size, 0, none⟩) 1 1, .string ⟨#[119, 108, 95, 99, 111, 109, 112, 111, 115, 105, 116, 111, 114]⟩, .slice (some ⟨W5.heap.size, 0, none⟩) 2 2, .slice none 0 0, .string ⟨#[119, 108, 95, 115, 104, 109]⟩, .slice (some ⟨W6.heap.size, 0, none⟩) 1 1, .slice (some ⟨W7.heap.size, 0, none⟩) 1 1, .string ⟨#[119, 108, 95, 115, 104, 109, 95, 112, 111, 111, 108]⟩, .slice (some ⟨W8.heap.size, 0, none⟩) 3 3, .slice none 0 0, .string ⟨#[119, 108, 95, 98, 117, 102, 102, 101, 114]⟩, .slice (some ⟨W9.heap.size, 0, none⟩) 1 1, .slice (some ⟨W10.heap.size, 0, none⟩) 1 1, .string ⟨#[119, 108, 95, 115, 117, 114, 102, 97, 99, 101]⟩, .slice (some ⟨W11.heap.size, 0, none⟩) 6 6, .slice none 0 0, .string ⟨#[119, 108, 95, 114, 101, 103, 105, 111, 110]⟩, .slice (some ⟨W12.heap.size, 0, none⟩) 3 3, .slice none 0 0, .string ⟨#[119, 108, 95, 115, 117, 98, 99, 111, 109, 112, 111, 115, 105, 116, 111, 114]⟩, .slice (some ⟨W13.heap.size, 0, none⟩) 2 2, .slice none 0 0, .string ⟨#[119, 108, 95, 115, 117, 98, 115, 117, 114, 102, 97, 99, 101]⟩, .slice (some ⟨W14.heap.size, 0, none⟩) 6 6, .slice none 0 0, .string ⟨#[119, 108, 95, 115, 101, 97, 116]⟩, .slice (some ⟨W15.heap.size, 0, none⟩) 2 2, .slice (some ⟨W16.heap.size, 0, none⟩) 1 1, .string ⟨#[119, 108, 95, 112, 111, 105, 110, 116, 101, 114]⟩, .slice (some ⟨W17.heap.size, 0, none⟩) 1 1, .slice (some ⟨W18.heap.size, 0, none⟩) 4 4, .string ⟨#[119, 108, 95, 107, 101, 121, 98, 111, 97, 114, 100]⟩, .slice (some ⟨W19.heap.size, 0, none⟩) 1 1, .slice (some ⟨W20.heap.size, 0, none⟩) 3 3, .string ⟨#[120, 100, 103, 95, 119, 109, 95, 98, 97, 115, 101]⟩, .slice (some ⟨W21.heap.size, 0, none⟩) 3 3, .slice (some ⟨W22.heap.size, 0, none⟩) 1 1, .string ⟨#[120, 100, 103, 95, 115, 117, 114, 102, 97, 99, 101]⟩, .slice (some ⟨W23.heap.size, 0, none⟩) 3 3, .slice (some ⟨W24.heap.size, 0, none⟩) 1 1, .string ⟨#[120, 100, 103, 95, 116, 111, 112, 108, 101, 118, 101, 108]⟩, .slice (some ⟨W25.heap.size, 0, none⟩) 2 2, .slice (some ⟨W26.heap.size, 0, none⟩) 2 2] := ⟨_, rfl⟩
  have hz : Blk W27 w.heap.size 102 _ := HZ.out.below c0 (by omega)
  have hst := store_tab W27 w.heap.size _ CS hz (by kernel_rfl) (by rw [hCS]; kernel_rfl) (by rw [hCS]; kernel_rfl)
  have HCS := Lib.hid hCS
  clear hCS
  refine wpList_skip rfl (W27.setRow w.heap.size CS) (run_store_of rfl (by kernel_rfl) (by rw [HCS.out]; kernel_rfl) hst) ?_
  have qF := below_setRow (q0.trans (c0.mono (by omega))) (Nat.le_refl w.heap.size) CS
  have bF := setRow_blk hz CS
  have r0 := setRow_far (blk_step h1 c1) w.heap.size CS (by omega)
  have r1 := setRow_far (blk_step h2 c2) w.heap.size CS (by omega)
  have r2 := setRow_far (blk_step h3 c3) w.heap.size CS (by omega)
  have r3 := setRow_far (blk_step h4 c4) w.heap.size CS (by omega)
  have r4 := setRow_far (blk_step h5 c5) w.heap.size CS (by omega)
  have r5 := setRow_far (blk_step h6 c6) w.heap.size CS (by omega)
  have r6 := setRow_far (blk_step h7 c7) w.heap.size CS (by omega)
  have r7 := setRow_far (blk_step h8 c8) w.heap.size CS (by omega)
  have r8 := setRow_far (blk_step h9 c9) w.heap.size CS (by omega)
  have r9 := setRow_far (blk_step h10 c10) w.heap.size CS (by omega)
  have r10 := setRow_far (blk_step h11 c11) w.heap.size CS (by omega)
  have r11 := setRow_far (blk_step h12 c12) w.heap.size CS (by omega)
  have r12 := setRow_far (blk_step h13 c13) w.heap.size CS (by omega)
  have r13 := setRow_far (blk_step h14 c14) w.heap.size CS (by omega)
  have r14 := setRow_far (blk_step h15 c15) w.heap.size CS (by omega)
  have r15 := setRow_far (blk_step h16 c16) w.heap.size CS (by omega)
  have r16 := setRow_far (blk_step h17 c17) w.heap.size CS (by omega)
  have r17 := setRow_far (blk_step h18 c18) w.heap.size CS (by omega)
  have r18 := setRow_far (blk_step h19 c19) w.heap.size CS (by omega)
  have r19 := setRow_far (blk_step h20 c20) w.heap.size CS (by omega)
  have r20 := setRow_far (blk_step h21 c21) w.heap.size CS (by omega)
  have r21 := setRow_far (blk_step h22 c22) w.heap.size CS (by omega)
  have r22 := setRow_far (blk_step h23 c23) w.heap.size CS (by omega)
  have r23 := setRow_far (blk_step h24 c24) w.heap.size CS (by omega)
  have r24 := setRow_far (blk_step h25 c25) w.heap.size CS (by omega)
  have r25 := setRow_far (blk_step h26 c26) w.heap.size CS (by omega)
  have r26 := setRow_far (blk_step h27 c27) w.heap.size CS (by omega)
  generalize (W27.setRow w.heap.size CS) = WF at qF bF r0 r1 r2 r3 r4 r5 r6 r7 r8 r9 r10 r11 r12 r13 r14 r15 r16 r17 r18 r19 r20 r21 r22 r23 r24 r25 r26 ⊢
  refine wpList_nil ?_
  refine hK _ _ ?_
  refine wp_ret ?_
  refine bodyPost_ret (results_cell_row rfl _ _ w.heap.size _ CS (0, 0) _ (by kernel_rfl) bF Tryd.underlying102 rfl (by rw [HCS.out]; kernel_rfl)) (by kernel_rfl) ?_
  clear hK hst hz
  refine ⟨mkR fun f => ([0, W0.heap.size, W2.heap.size, 0, W5.heap.size, W6.heap.size, W8.heap.size, W9.heap.size, W11.heap.size, W12.heap.size, W13.heap.size, W14.heap.size, W15.heap.size, W17.heap.size, W19.heap.size, W21.heap.size, W23.heap.size, W25.heap.size] : List Nat).getD f 0, mkE fun f => ([0, W1.heap.size, W3.heap.size, W4.heap.size, 0, W7.heap.size, 0, W10.heap.size, 0, 0, 0, 0, W16.heap.size, W18.heap.size, W20.heap.size, W22.heap.size, W24.heap.size, W26.heap.size] : List Nat).getD f 0, by rw [HCS.out]; kernel_rfl, tab_is _ _ ?_ ?_, qF⟩
  · intro f hf hne
    have : f = 0 ∨ f = 1 ∨ f = 2 ∨ f = 3 ∨ f = 4 ∨ f = 5 ∨ f = 6 ∨ f = 7 ∨ f = 8 ∨ f = 9 ∨ f = 10 ∨ f = 11 ∨ f = 12 ∨ f = 13 ∨ f = 14 ∨ f = 15 ∨ f = 16 ∨ f = 17 := by omega
    rcases this with rfl | rfl | rfl | rfl | rfl | rfl | rfl | rfl | rfl | rfl | rfl | rfl | rfl | rfl | rfl | rfl | rfl | rfl
    · exact absurd rfl hne
    · have e : (reqCells (reqsOf 1)).toArray = #[(.string ⟨#[110]⟩), .int .i64 3, .bool false, (.string ⟨#[110]⟩), .int .i64 2, .bool false] := by kernel_rfl
      rw [e]; exact ⟨r0, (by have := z0; omega : w.heap.size ≤ W0.heap.size)⟩
    · have e : (reqCells (reqsOf 2)).toArray = #[(.string ⟨#[117, 115, 117, 110]⟩), .int .i64 0, .bool false] := by kernel_rfl
      rw [e]; exact ⟨r2, (by have := z2; omega : w.heap.size ≤ W2.heap.size)⟩
    · exact absurd rfl hne
    · have e : (reqCells (reqsOf 4)).toArray = #[(.string ⟨#[110]⟩), .int .i64 8, .bool false, (.string ⟨#[110]⟩), .int .i64 9, .bool false] := by kernel_rfl
      rw [e]; exact ⟨r5, (by have := z5; omega : w.heap.size ≤ W5.heap.size)⟩
    · have e : (reqCells (reqsOf 5)).toArray = #[(.string ⟨#[110, 117, 105]⟩), .int .i64 6, .bool false] := by kernel_rfl
      rw [e]; exact ⟨r6, (by have := z6; omega : w.heap.size ≤ W6.heap.size)⟩
    · have e : (reqCells (reqsOf 6)).toArray = #[(.string ⟨#[110, 105, 105, 105, 105, 117]⟩), .int .i64 7, .bool false, (.string ⟨#[]⟩), .int .i64 0, .bool true, (.string ⟨#[105]⟩), .int .i64 0, .bool false] := by kernel_rfl
      rw [e]; exact ⟨r8, (by have := z8; omega : w.heap.size ≤ W8.heap.size)⟩
    · have e : (reqCells (reqsOf 7)).toArray = #[(.string ⟨#[]⟩), .int .i64 0, .bool true] := by kernel_rfl
      rw [e]; exact ⟨r9, (by have := z9; omega : w.heap.size ≤ W9.heap.size)⟩
    · have e : (reqCells (reqsOf 8)).toArray = #[(.string ⟨#[]⟩), .int .i64 0, .bool true, (.string ⟨#[111, 105, 105]⟩), .int .i64 0, .bool false, (.string ⟨#[105, 105, 105, 105]⟩), .int .i64 0, .bool false, (.string ⟨#[110]⟩), .int .i64 3, .bool false, (.string ⟨#[111]⟩), .int .i64 0, .bool false, (.string ⟨#[]⟩), .int .i64 0, .bool false] := by kernel_rfl
      rw [e]; exact ⟨r11, (by have := z11; omega : w.heap.size ≤ W11.heap.size)⟩
    · have e : (reqCells (reqsOf 9)).toArray = #[(.string ⟨#[]⟩), .int .i64 0, .bool true, (.string ⟨#[105, 105, 105, 105]⟩), .int .i64 0, .bool false, (.string ⟨#[105, 105, 105, 105]⟩), .int .i64 0, .bool false] := by kernel_rfl
      rw [e]; exact ⟨r12, (by have := z12; omega : w.heap.size ≤ W12.heap.size)⟩
    · have e : (reqCells (reqsOf 10)).toArray = #[(.string ⟨#[]⟩), .int .i64 0, .bool true, (.string ⟨#[110, 111, 111]⟩), .int .i64 11, .bool false] := by kernel_rfl
      rw [e]; exact ⟨r13, (by have := z13; omega : w.heap.size ≤ W13.heap.size)⟩
    · have e : (reqCells (reqsOf 11)).toArray = #[(.string ⟨#[]⟩), .int .i64 0, .bool true, (.string ⟨#[105, 105]⟩), .int .i64 0, .bool false, (.string ⟨#[111]⟩), .int .i64 0, .bool false, (.string ⟨#[111]⟩), .int .i64 0, .bool false, (.string ⟨#[]⟩), .int .i64 0, .bool false, (.string ⟨#[]⟩), .int .i64 0, .bool false] := by kernel_rfl
      rw [e]; exact ⟨r14, (by have := z14; omega : w.heap.size ≤ W14.heap.size)⟩
    · have e : (reqCells (reqsOf 12)).toArray = #[(.string ⟨#[110]⟩), .int .i64 13, .bool false, (.string ⟨#[110]⟩), .int .i64 14, .bool false] := by kernel_rfl
      rw [e]; exact ⟨r15, (by have := z15; omega : w.heap.size ≤ W15.heap.size)⟩
    · have e : (reqCells (reqsOf 13)).toArray = #[(.string ⟨#[]⟩), .int .i64 0, .bool true] := by kernel_rfl
      rw [e]; exact ⟨r17, (by have := z17; omega : w.heap.size ≤ W17.heap.size)⟩
    · have e : (reqCells (reqsOf 14)).toArray = #[(.string ⟨#[]⟩), .int .i64 0, .bool true] := by kernel_rfl
      rw [e]; exact ⟨r19, (by have := z19; omega : w.heap.size ≤ W19.heap.size)⟩
    · have e : (reqCells (reqsOf 15)).toArray = #[(.string ⟨#[]⟩), .int .i64 0, .bool true, (.string ⟨#[110, 111]⟩), .int .i64 16, .bool false, (.string ⟨#[117]⟩), .int .i64 0, .bool false] := by kernel_rfl
      rw [e]; exact ⟨r21, (by have := z21; omega : w.heap.size ≤ W21.heap.size)⟩
    · have e : (reqCells (reqsOf 16)).toArray = #[(.string ⟨#[]⟩), .int .i64 0, .bool true, (.string ⟨#[110]⟩), .int .i64 17, .bool false, (.string ⟨#[117]⟩), .int .i64 0, .bool false] := by kernel_rfl
      rw [e]; exact ⟨r23, (by have := z23; omega : w.heap.size ≤ W23.heap.size)⟩
    · have e : (reqCells (reqsOf 17)).toArray = #[(.string ⟨#[]⟩), .int .i64 0, .bool true, (.string ⟨#[115]⟩), .int .i64 0, .bool false] := by kernel_rfl
      rw [e]; exact ⟨r25, (by have := z25; omega : w.heap.size ≤ W25.heap.size)⟩
  · intro f hf hne
    have : f = 0 ∨ f = 1 ∨ f = 2 ∨ f = 3 ∨ f = 4 ∨ f = 5 ∨ f = 6 ∨ f = 7 ∨ f = 8 ∨ f = 9 ∨ f = 10 ∨ f = 11 ∨ f = 12 ∨ f = 13 ∨ f = 14 ∨ f = 15 ∨ f = 16 ∨ f = 17 := by omega
    rcases this with rfl | rfl | rfl | rfl | rfl | rfl | rfl | rfl | rfl | rfl | rfl | rfl | rfl | rfl | rfl | rfl | rfl | rfl
    · exact absurd rfl hne
    · have e : ((evsOf 1).map Value.string).toArray = #[.string ⟨#[111, 117, 115]⟩, .string ⟨#[117]⟩] := by kernel_rfl
      rw [e]; exact ⟨r1, (by have := z1; omega : w.heap.size ≤ W1.heap.size)⟩
    · have e : ((evsOf 2).map Value.string).toArray = #[.string ⟨#[117, 115, 117]⟩] := by kernel_rfl
      rw [e]; exact ⟨r3, (by have := z3; omega : w.heap.size ≤ W3.heap.size)⟩
    · have e : ((evsOf 3).map Value.string).toArray = #[.string ⟨#[117]⟩] := by kernel_rfl
      rw [e]; exact ⟨r4, (by have := z4; omega : w.heap.size ≤ W4.heap.size)⟩
    · exact absurd rfl hne
    · have e : ((evsOf 5).map Value.string).toArray = #[.string ⟨#[117]⟩] := by kernel_rfl
      rw [e]; exact ⟨r7, (by have := z7; omega : w.heap.size ≤ W7.heap.size)⟩
    · exact absurd rfl hne
    · have e : ((evsOf 7).map Value.string).toArray = #[.string ⟨#[]⟩] := by kernel_rfl
      rw [e]; exact ⟨r10, (by have := z10; omega : w.heap.size ≤ W10.heap.size)⟩
    · exact absurd rfl hne
    · exact absurd rfl hne
    · exact absurd rfl hne
    · exact absurd rfl hne
    · have e : ((evsOf 12).map Value.string).toArray = #[.string ⟨#[117]⟩] := by kernel_rfl
      rw [e]; exact ⟨r16, (by have := z16; omega : w.heap.size ≤ W16.heap.size)⟩
    · have e : ((evsOf 13).map Value.string).toArray = #[.string ⟨#[117, 111, 102, 102]⟩, .string ⟨#[117, 111]⟩, .string ⟨#[117, 102, 102]⟩, .string ⟨#[117, 117, 117, 117]⟩] := by kernel_rfl
      rw [e]; exact ⟨r18, (by have := z18; omega : w.heap.size ≤ W18.heap.size)⟩
    · have e : ((evsOf 14).map Value.string).toArray = #[.string ⟨#[117, 111]⟩, .string ⟨#[117, 111]⟩, .string ⟨#[117, 117, 117, 117]⟩] := by kernel_rfl
      rw [e]; exact ⟨r20, (by have := z20; omega : w.heap.size ≤ W20.heap.size)⟩
    · have e : ((evsOf 15).map Value.string).toArray = #[.string ⟨#[117]⟩] := by kernel_rfl
      rw [e]; exact ⟨r22, (by have := z22; omega : w.heap.size ≤ W22.heap.size)⟩
    · have e : ((evsOf 16).map Value.string).toArray = #[.string ⟨#[117]⟩] := by kernel_rfl
      rw [e]; exact ⟨r24, (by have := z24; omega : w.heap.size ≤ W24.heap.size)⟩
    · have e : ((evsOf 17).map Value.string).toArray = #[.string ⟨#[105, 105]⟩, .string ⟨#[]⟩] := by kernel_rfl
      rw [e]; exact ⟨r26, (by have := z26; omega : w.heap.size ≤ W26.heap.size)⟩
end Go.Proofs.YtagjmkgbfbaekaaDoor
