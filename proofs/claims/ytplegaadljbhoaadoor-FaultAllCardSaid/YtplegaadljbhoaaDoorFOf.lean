/- errors.As, fault.New, fault.Wrap, fault.Of. No condition but that errors.errorType stands. -/
import Derived.Test.YtplegaadljbhoaaDoorAs
import Derived.Test.YtplegaadljbhoaaDoorFIs
namespace Go.Proofs.YtplegaadljbhoaaDoor
open Go.RowKit Go.Extern.Stop Go.Stop Go.Extern
set_option linter.unusedVariables false
set_option maxRecDepth 100000

def ETy (w : World) (B : Nat) : Prop := w.cell? ⟨16, 0, none⟩ = some (.iface 72 (.agg #[.pointer (some ⟨17, 24, none⟩)])) ∧ 16 < B
theorem ETy.to {w w' : World} {B B' : Nat} (h : ETy w B) (hb : Below B w w') (hB : B ≤ B') : ETy w' B' := ⟨(hb.cell (p := ⟨16, 0, none⟩) h.2).trans h.1, by have := h.2; omega⟩

set_option maxHeartbeats 1000000 in
theorem as_any (A : Nat → Addr) (e : EC) (t : Nat) (w : World) (hy : ETy w w.heap.size) (h : e.At A w w.heap.size) (hn : ¬ e.isNil) (ht : Blk w t 33 #[.pointer none]) :
    Calls Tryd.prog 14 #[e.val A, .iface 35 (.pointer (some ⟨t, 0, none⟩))] w fun ev w' => AsPost t w w' e.hit ev := by
  have h6 := @run_callFunc_extern Tryd.prog 24 _ (fun args => ReflectliteValue.unpack (args.getD 0 (.tuple #[]))) Tryd.func24 (by kernel_rfl) (by kernel_rfl) (by kernel_rfl) (by kernel_rfl)
  have h7 := @run_callFunc_extern Tryd.prog 25 _ (ReflectliteValue.methodAny (ReflectliteValue.valueError "reflectlite.Value.Type" 0) (fun t _ _ _ => ReflectliteType.toType t)) Tryd.func25 (by kernel_rfl) (by kernel_rfl) (by kernel_rfl) (by kernel_rfl)
  have h8 := @run_callFunc_extern Tryd.prog 26 _ (ReflectliteValue.method (ReflectliteValue.valueError "reflectlite.Value.IsNil" 0) ReflectliteValue.isNil) Tryd.func26 (by kernel_rfl) (by kernel_rfl) (by kernel_rfl) (by kernel_rfl)
  have h27 := @run_callFunc_extern Tryd.prog 47 _ (ReflectliteType.abiMethod fun t => do pure (.int .u8 (← Rtype.kind t))) Tryd.func47 (by kernel_rfl) (by kernel_rfl) (by kernel_rfl) (by kernel_rfl)
  have h37 := @run_callFunc_extern Tryd.prog 60 _ (ReflectliteType.method ReflectliteType.elem) Tryd.func60 (by kernel_rfl) (by kernel_rfl) (by kernel_rfl) (by kernel_rfl)
  have h38 := @run_callFunc_extern Tryd.prog 61 _ (ReflectliteType.relation "Implements" ReflectliteType.implements_) Tryd.func61 (by kernel_rfl) (by kernel_rfl) (by kernel_rfl) (by kernel_rfl)
  have f6 := Tryd.valueOfP
  have f7 := Tryd.typeP
  have mK := Tryd.methodKind
  have mE := Tryd.methodElem
  have mI := Tryd.methodImplements
  have kP := Tryd.kindP
  have kF := Tryd.kindF
  have eP := Tryd.elemP
  have iF := Tryd.implementsF
  obtain ⟨w1, hw1⟩ : ∃ w1, w1 = w.alloc (.cells #[.pointer (some ⟨t, 0, none⟩)] 35) := ⟨_, rfl⟩
  obtain ⟨w2, hw2⟩ : ∃ w2, w2 = w1.alloc (.cells #[.pointer (some ⟨17, 35, none⟩), .pointer (some ⟨w.heap.size, 0, none⟩), .int .u64 150] 54) := ⟨_, rfl⟩
  have hb1 : Below w.heap.size w w1 := by rw [hw1]; exact (Below.refl _ _).alloc (Nat.le_refl _) _
  have hb2 : Below w.heap.size w w2 := by rw [hw2]; exact hb1.alloc hb1.size _
  have hk1 : Blk w1 w.heap.size 35 #[.pointer (some ⟨t, 0, none⟩)] := by rw [hw1]; exact Blk.new _ _ _
  have hk2 : Blk w2 w.heap.size 35 #[.pointer (some ⟨t, 0, none⟩)] := by rw [hw2]; exact hk1.alloc _
  have hT2 : Blk w2 t 33 #[.pointer none] := ht.below hb2 ht.lt
  have hy2 := hy.to hb2 hb2.size
  have hg2 := hy2.1
  have n8 := Tryd.isNilP ⟨w.heap.size, 0, none⟩ ⟨t, 0, none⟩ w2 (hk2.cell 0)
  have hat2 : e.At A w2 w2.heap.size := (h.below (Nat.le_refl _) hb2).more hb2.size
  have HI := Lib.hid (as_in A e t w.heap.size w2 hat2 hn hT2 hk2)
  have HB2 := Lib.hid hb2
  obtain ⟨T0, u0, hv0⟩ := EC.val_iface (A := A) (w := w) (B := 0) hn
  rw [hv0] at HI ⊢
  generalize e.hit = r at HI ⊢
  clear h hn hv0 ht hy hb1 hb2 hk1 hk2 hT2 hy2 hat2
  have hw2' := hw2
  rw [hw1] at hw2'
  rw [hw2'] at hg2 n8
  have HW2 := Lib.hid hw2'
  clear hw1 hw2 hw2'
  go_enter Tryd.func14, Tryd.ntmps14
  go_wp2_with fail
  rw [← HW2.out]
  refine HI.out.mono ?_
  intro ev w3 hp
  have HP := Lib.hid hp
  clear hp
  cases r with
  | none =>
    obtain ⟨rfl, hb3⟩ := HP.out
    have HB3 := Lib.hid (HB2.out.trans (hb3.mono HB2.out.size))
    clear hb3
    go_wp2_with fail
    go_ret
    exact ⟨rfl, HB3.out⟩
  | some g =>
    obtain ⟨rfl, hb3, hk3⟩ := HP.out
    have HB3 := Lib.hid (only_trans (only_of_below HB2.out (some t)) hb3)
    have HK3 := Lib.hid hk3
    clear hb3 hk3
    go_wp2_with fail
    go_ret
    exact ⟨rfl, HB3.out, HK3.out⟩

theorem EC.val_form (A : Nat → Addr) : ∀ e : EC, e.val A = .nilIface ∨ ∃ T v, e.val A = .iface T v
  | .base k => by
    rcases Nat.eq_zero_or_pos k with rfl | h
    · exact .inl rfl
    · exact .inr ⟨_, _, errV_pos A h⟩
  | .wrap _ _ _ => .inr ⟨_, _, rfl⟩
  | .fault _ _ _ _ _ => .inr ⟨_, _, rfl⟩
def EC.outer : EC → Option (Nat × Int × Int × ByteArray × EC)
  | .base _ => none
  | .wrap _ _ e => e.outer
  | .fault g o c s e => some (g, o, c, s, e)
theorem EC.hit_outer : ∀ e : EC, e.hit = e.outer.map (·.1)
  | .base _ => rfl
  | .wrap _ _ e => e.hit_outer
  | .fault _ _ _ _ _ => rfl
theorem EC.At.outer {A : Nat → Addr} {w : World} {g : Nat} {o c : Int} {s : ByteArray} {e2 : EC} : ∀ {e : EC} {B : Nat}, e.At A w B → e.outer = some (g, o, c, s, e2) → g < B ∧ Blk w g 30 #[.int .i64 o, .int .i64 c, .string s, e2.val A] ∧ e2.At A w g
  | .base _, _, _, h => by cases h
  | .wrap _ _ _, _, ⟨h1, _, _, h4⟩, h => by
    obtain ⟨a, b, c⟩ := h4.outer h
    exact ⟨by omega, b, c⟩
  | .fault _ _ _ _ _, _, ⟨h1, h2, h3⟩, h => by
    cases h
    exact ⟨h1, h2, h3⟩
def ofR (A : Nat → Addr) (e : EC) : Value :=
  match e.outer with
  | none => .tuple #[.agg #[.int .i64 0, .int .i64 0, .string ⟨#[]⟩, .nilIface], .bool false]
  | some (_, o, c, s, e2) => .tuple #[.agg #[.int .i64 o, .int .i64 c, .string s, e2.val A], .bool true]
set_option maxHeartbeats 1000000 in
theorem of_any (A : Nat → Addr) (e : EC) (w : World) (hy : ETy w w.heap.size) (h : e.At A w w.heap.size) (hn : ¬ e.isNil) :
    Calls Tryd.prog 13 #[e.val A] w fun ev w' => ev = .returned (ofR A e) ∧ Below w.heap.size w w' := by
  obtain ⟨w1, hw1⟩ : ∃ w1, w1 = w.alloc (.cells #[.int .i64 0, .int .i64 0, .string ⟨#[]⟩, .nilIface] 30) := ⟨_, rfl⟩
  obtain ⟨w2, hw2⟩ : ∃ w2, w2 = w1.alloc (.cells #[.pointer none] 33) := ⟨_, rfl⟩
  have hb1 : Below w.heap.size w w1 := by rw [hw1]; exact (Below.refl _ _).alloc (Nat.le_refl _) _
  have hs1 : w1.heap.size = w.heap.size + 1 := by rw [hw1, World.size_alloc]
  have hb2 : Below w.heap.size w w2 := by rw [hw2]; exact hb1.alloc hb1.size _
  have hk1 : Blk w2 w.heap.size 30 #[.int .i64 0, .int .i64 0, .string ⟨#[]⟩, .nilIface] := by rw [hw2, hw1]; exact (Blk.new _ _ _).alloc _
  have hk2 : Blk w2 (w.heap.size + 1) 33 #[.pointer none] := by rw [hw2, ← hs1]; exact Blk.new _ _ _
  have hat2 : e.At A w2 w2.heap.size := (h.below (Nat.le_refl _) hb2).more hb2.size
  have HI := Lib.hid (as_any A e (w.heap.size + 1) w2 (hy.to hb2 hb2.size) hat2 hn hk2)
  have HAT := Lib.hid hat2
  have hlow : ∀ g o c s e2, e.outer = some (g, o, c, s, e2) → g < w.heap.size := fun g o c s e2 ho => (h.outer ho).1
  have HB2 := Lib.hid hb2
  have HK1 := Lib.hid hk1
  have HK2 := Lib.hid hk2
  obtain ⟨T0, u0, hv0⟩ := EC.val_iface (A := A) (w := w) (B := 0) hn
  rw [hv0] at HI ⊢
  rw [e.hit_outer] at HI
  have hof : ofR A e = match e.outer with
  | none => .tuple #[.agg #[.int .i64 0, .int .i64 0, .string ⟨#[]⟩, .nilIface], .bool false]
  | some (_, o, c, s, e2) => .tuple #[.agg #[.int .i64 o, .int .i64 c, .string s, e2.val A], .bool true] := rfl
  generalize ofR A e = res at hof ⊢
  have HOF := Lib.hid hof
  have HLOW := Lib.hid hlow
  rw [hw1] at hw2
  have HW2 := Lib.hid hw2
  clear h hn hv0 hy hb1 hb2 hk1 hk2 hat2 hw1 hw2 hs1 hof hlow
  go_enter Tryd.func13, Tryd.ntmps13
  go_wp2_with fail
  rw [← HW2.out]
  refine HI.out.mono ?_
  intro ev w3 hp
  have HP := Lib.hid hp
  clear hp
  obtain ⟨n, hn⟩ : ∃ n, n = w.heap.size := ⟨_, rfl⟩
  rcases ho : e.outer with _ | ⟨g, o, c, s, e2⟩
  · have hp := HP.out
    have hof := HOF.out
    rw [ho] at hp hof
    obtain ⟨rfl, hb3⟩ := hp
    subst hof
    have HB3 := Lib.hid (HB2.out.trans (hb3.mono HB2.out.size))
    have HK3 := Lib.hid (HK1.out.below hb3 HK1.out.lt)
    rw [← hn] at HK3 ⊢
    have HN := Lib.hid hn
    clear hb3 ho hn
    have c0 : w3.cell? ⟨n, 0, none⟩ = some (.int .i64 0) := HK3.out.cell 0
    have c1 : w3.cell? ⟨n, 1, none⟩ = some (.int .i64 0) := HK3.out.cell 1
    have c2 : w3.cell? ⟨n, 2, none⟩ = some (.string ⟨#[]⟩) := HK3.out.cell 2
    have c3 : w3.cell? ⟨n, 3, none⟩ = some .nilIface := HK3.out.cell 3
    have f0 : w3.frozen? ⟨n, 0, none⟩ = false := HK3.out.frozen 0
    have f1 : w3.frozen? ⟨n, 1, none⟩ = false := HK3.out.frozen 1
    have f2 : w3.frozen? ⟨n, 2, none⟩ = false := HK3.out.frozen 2
    have f3 : w3.frozen? ⟨n, 3, none⟩ = false := HK3.out.frozen 3
    go_wp2_with fail
    refine bodyPost_ret (v := .tuple #[.agg #[.int .i64 0, .int .i64 0, .string ⟨#[]⟩, .nilIface], .bool false]) (by simp [results, Tryd.results13, go_sem, *]) rfl ?_
    exact ⟨rfl, (((HB3.out.setCell (by rw [HN.out]; exact Nat.le_refl _) _).setCell (by rw [HN.out]; exact Nat.le_refl _) _).setCell (by rw [HN.out]; exact Nat.le_refl _) _).setCell (by rw [HN.out]; exact Nat.le_refl _) _⟩
  · have hp := HP.out
    have hof := HOF.out
    rw [ho] at hp hof
    obtain ⟨rfl, hb3, hk3⟩ := hp
    subst hof
    have HK4 := Lib.hid (HK1.out.grown hb3 (by simp))
    obtain ⟨hgB, hgk, _⟩ := HAT.out.outer ho
    have hgl := HLOW.out g o c s e2 ho
    have HG := Lib.hid (hgk.grown hb3 (by simp; omega))
    have HB4 := Lib.hid (below_of_only HB2.out hb3 HB2.out.size (by omega))
    have HK3 := Lib.hid hk3
    rw [← hn] at HK4 HK3 ⊢
    have HN := Lib.hid hn
    clear hb3 ho hn hgk hk3 hgl hgB
    have k0 : w3.cell? ⟨n + 1, 0, none⟩ = some (.pointer (some ⟨g, 0, none⟩)) := HK3.out.cell 0
    have c0 : w3.cell? ⟨n, 0, none⟩ = some (.int .i64 0) := HK4.out.cell 0
    have c1 : w3.cell? ⟨n, 1, none⟩ = some (.int .i64 0) := HK4.out.cell 1
    have c2 : w3.cell? ⟨n, 2, none⟩ = some (.string ⟨#[]⟩) := HK4.out.cell 2
    have c3 : w3.cell? ⟨n, 3, none⟩ = some .nilIface := HK4.out.cell 3
    have f0 : w3.frozen? ⟨n, 0, none⟩ = false := HK4.out.frozen 0
    have f1 : w3.frozen? ⟨n, 1, none⟩ = false := HK4.out.frozen 1
    have f2 : w3.frozen? ⟨n, 2, none⟩ = false := HK4.out.frozen 2
    have f3 : w3.frozen? ⟨n, 3, none⟩ = false := HK4.out.frozen 3
    have g0 : w3.cell? ⟨g, 0, none⟩ = some (.int .i64 o) := HG.out.cell 0
    have g1 : w3.cell? ⟨g, 1, none⟩ = some (.int .i64 c) := HG.out.cell 1
    have g2 : w3.cell? ⟨g, 2, none⟩ = some (.string s) := HG.out.cell 2
    have g3 : w3.cell? ⟨g, 3, none⟩ = some (e2.val A) := HG.out.cell 3
    rcases EC.val_form A e2 with hv2 | ⟨T2, u2, hv2⟩
    · rw [hv2] at g3
      have HV2 := Lib.hid hv2
      clear hv2
      go_wp2_with fail
      refine bodyPost_ret (v := .tuple #[.agg #[.int .i64 o, .int .i64 c, .string s, .nilIface], .bool true]) (by simp [results, Tryd.results13, go_sem, *]) rfl ?_
      exact ⟨by rw [HV2.out], (((HB4.out.setCell (by rw [HN.out]; exact Nat.le_refl _) _).setCell (by rw [HN.out]; exact Nat.le_refl _) _).setCell (by rw [HN.out]; exact Nat.le_refl _) _).setCell (by rw [HN.out]; exact Nat.le_refl _) _⟩
    · rw [hv2] at g3
      have HV2 := Lib.hid hv2
      clear hv2
      go_wp2_with fail
      refine bodyPost_ret (v := .tuple #[.agg #[.int .i64 o, .int .i64 c, .string s, .iface T2 u2], .bool true]) (by simp [results, Tryd.results13, go_sem, *]) rfl ?_
      exact ⟨by rw [HV2.out], (((HB4.out.setCell (by rw [HN.out]; exact Nat.le_refl _) _).setCell (by rw [HN.out]; exact Nat.le_refl _) _).setCell (by rw [HN.out]; exact Nat.le_refl _) _).setCell (by rw [HN.out]; exact Nat.le_refl _) _⟩
end Go.Proofs.YtplegaadljbhoaaDoor
