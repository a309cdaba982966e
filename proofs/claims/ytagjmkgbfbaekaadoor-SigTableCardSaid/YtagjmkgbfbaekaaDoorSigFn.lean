/- The calls of package sig. No condition but that the errors stand in memory. -/
import Derived.Test.YtagjmkgbfbaekaaDoorSigOf
import Derived.Test.YtagjmkgbfbaekaaDoorKind
import Derived.Laws.ResultCell
namespace Go.Proofs.YtagjmkgbfbaekaaDoor
open Go.RowKit
set_option maxRecDepth 100000

def req0 : ByteArray × Int × Bool := (⟨#[]⟩, 0, false)
def reqOk (face op : Int) : Bool := decide (0 ≤ op ∧ op < (reqsOf (fc face)).length)
def reqAt (face op : Int) : ByteArray × Int × Bool := if reqOk face op then (reqsOf (fc face)).getD op.toNat req0 else req0
def evOk (face op : Int) : Bool := decide (0 ≤ op ∧ op < (evsOf (fc face)).length)
def reqErr (face op : Int) : Nat := if reqOk face op then 0 else 6
def evErr (face op : Int) : Nat := if evOk face op then 0 else 6
def evAt (face op : Int) : ByteArray := if evOk face op then (evsOf (fc face)).getD op.toNat ⟨#[]⟩ else ⟨#[]⟩
theorem reqCells_at (l : List (ByteArray × Int × Bool)) : ∀ (k : Nat) (h : k < l.length), (reqCells l)[k * 3]? = some (.string l[k].1) ∧ (reqCells l)[k * 3 + 1]? = some (.int .i64 l[k].2.1) ∧ (reqCells l)[k * 3 + 2]? = some (.bool l[k].2.2) := by
  induction l with
  | nil => intro k h; simp at h
  | cons x l ih =>
    intro k h
    have e : reqCells (x :: l) = [.string x.1, .int .i64 x.2.1, .bool x.2.2] ++ reqCells l := by simp [reqCells]
    rcases k with _ | k
    · exact ⟨rfl, rfl, rfl⟩
    · obtain ⟨h1, h2, h3⟩ := ih k (by simpa using h)
      rw [e]
      have e1 : (k + 1) * 3 = k * 3 + 3 := by omega
      rw [e1]
      refine ⟨?_, ?_, ?_⟩
      · rw [List.getElem?_append_right (by simp)]; simpa using h1
      · rw [List.getElem?_append_right (by simp)]; simpa using h2
      · rw [List.getElem?_append_right (by simp)]; simpa using h3

theorem field_name (a b c : Value) (w : World) : (Instr.field 97 (.agg #[a, b, c]) 0).run Tryd.prog w = .ok a w := by kernel_rfl
theorem field_reqs (a b c : Value) (w : World) : (Instr.field 97 (.agg #[a, b, c]) 1).run Tryd.prog w = .ok b w := by kernel_rfl
theorem field_evs (a b c : Value) (w : World) : (Instr.field 97 (.agg #[a, b, c]) 2).run Tryd.prog w = .ok c w := by kernel_rfl
/-- What 'asked' hands back. -/
theorem asked_res (tmps : Array Value) (w : World) (g : Nat) (x y z u : Value) (hp : tmps.getD 4 undef = .pointer (some ⟨g, 0, none⟩)) (hu : tmps.getD 5 undef = u) (h : Blk w g 91 #[x, y, z]) :
    (results Tryd.f52 tmps).run Tryd.prog w = .ok (.tuple #[.agg #[x, y, z], u]) w := by
  rw [results_cell_tmp rfl, hp, hu]
  have := run_loadVar_row (P := Tryd.prog) w g 91 91 #[x, y, z] (0, 0) _ h Tryd.underlying91 rfl (by kernel_rfl)
  simp [asAddr, this, Result.andThen]

set_option maxHeartbeats 1600000 in
theorem asked_any (face op : Int) (w : World) : Calls Tryd.prog 52 #[.int .i64 face, .int .i64 op] w fun e w' =>
    e = .returned (.tuple #[.agg #[.string (reqAt face op).1, .int .i64 (reqAt face op).2.1, .bool (reqAt face op).2.2], .bool (reqOk face op)]) ∧ Below w.heap.size w w' := by
  obtain ⟨ln, hln⟩ : ∃ n, n = (reqsOf (fc face)).length := ⟨_, rfl⟩
  have hca : op < 0 ∨ (0 ≤ op ∧ (ln : Int) ≤ op) ∨ ∃ k : Nat, op = k ∧ k < ln := by
    rcases Int.lt_or_le op 0 with h | h
    · exact .inl h
    · rcases Int.lt_or_le op ln with h2 | h2
      · exact .inr (.inr ⟨op.toNat, by omega, by omega⟩)
      · exact .inr (.inl ⟨h, h2⟩)
  have hno : Hid (∀ o : Int, (o < 0 ∨ (ln : Int) ≤ o) → reqOk face o = false ∧ reqAt face o = req0) := fun o ho => by
    have : reqOk face o = false := by unfold reqOk; rw [← hln]; simp; omega
    exact ⟨this, by simp [reqAt, this]⟩
  have hyes : Hid (∀ (k : Nat) (h : k < (reqsOf (fc face)).length), reqOk face k = true ∧ reqAt face k = (reqsOf (fc face))[k]) := fun k h => by
    have : reqOk face k = true := by unfold reqOk; simp; omega
    refine ⟨this, ?_⟩
    simp [reqAt, this, h]
  have hlnm : ln ≤ 6 := by have := reqs_small (fc face) (fc_lt face); omega
  have HLN := Lib.hid hln
  clear hln
  go_enter Tryd.func52, Tryd.ntmps52
  go_wp2_with fail
  refine (of_any face _).mono ?_
  rintro e w1 ⟨r, ev, rfl, hk, hb1⟩
  have hg0 := Blk.below (Blk.new w 91 #[.string ⟨#[]⟩, .int .i64 0, .bool false]) hb1 (by simp)
  have hb2 : Below w.heap.size w w1 := ((Below.refl _ _).alloc (Nat.le_refl _) _).trans (hb1.mono (by simp))
  have HG := Lib.hid hg0
  have HB2 := Lib.hid hb2
  have gc0 := hg0.cell 0
  have gc1 := hg0.cell 1
  have gc2 := hg0.cell 2
  have gf0 := hg0.frozen 0
  have gf1 := hg0.frozen 1
  have gf2 := hg0.frozen 2
  simp at gc0 gc1 gc2
  have HK := Lib.hid hk.1
  obtain ⟨_, ra, rc, hr, hrc, _, _, hrx⟩ := hk.1
  rw [← HLN.out] at hr hrc hrx
  have HRX := Lib.hid hrx
  subst hr
  obtain ⟨ea, ec, he, _⟩ := hk.2.form
  subst he
  have HF : Hid (∀ s r e : Value, Blk (((w1.setCell ⟨w.heap.size, 0, none⟩ s).setCell ⟨w.heap.size, 1, none⟩ r).setCell ⟨w.heap.size, 2, none⟩ e) w.heap.size 91 #[s, r, e] ∧ Below w.heap.size w (((w1.setCell ⟨w.heap.size, 0, none⟩ s).setCell ⟨w.heap.size, 1, none⟩ r).setCell ⟨w.heap.size, 2, none⟩ e)) := by
    intro s r e
    refine ⟨by simpa using ((HG.out.set_ 0 s).set_ 1 r).set_ 2 e, below_of_only HB2.out (only_set (only_set (only_set (only_refl w1 (some w.heap.size)) 0 s) 1 r) 2 e) HB2.out.size (Nat.le_refl _)⟩
  clear hrx hk hg0 hb2 hb1
  have hfld := field_reqs
  rcases hca with h1 | ⟨h1, h2⟩ | ⟨k, rfl, h1⟩
  · have hd : decide (op < 0) = true := by simpa using h1
    obtain ⟨e0, e1⟩ := hno.out op (.inl h1)
    have HE0 := Lib.hid (And.intro e0 e1)
    clear e0 e1 h1
    go_wp2
    have hfin := HF.out (.string ⟨#[]⟩) (.int .i64 0) (.bool false)
    refine bodyPost_ret (asked_res _ _ w.heap.size _ _ _ _ rfl rfl hfin.1) rfl ?_
    rw [HE0.out.1, HE0.out.2]
    exact ⟨rfl, hfin.2⟩
  · have hd : decide ((ln : Int) ≤ op) = true := by simpa using h2
    obtain ⟨e0, e1⟩ := hno.out op (.inr h2)
    have HE0 := Lib.hid (And.intro e0 e1)
    clear e0 e1
    go_wp2
    have hfin := HF.out (.string ⟨#[]⟩) (.int .i64 0) (.bool false)
    refine bodyPost_ret (asked_res _ _ w.heap.size _ _ _ _ rfl rfl hfin.1) rfl ?_
    rw [HE0.out.1, HE0.out.2]
    exact ⟨rfl, hfin.2⟩
  · have hk2 : k < (reqsOf (fc face)).length := by rw [← HLN.out]; exact h1
    obtain ⟨e0, e1⟩ := hyes.out k hk2
    have HE0 := Lib.hid e0
    obtain ⟨b, off, rfl, _, hcx⟩ := HRX.out (by omega)
    obtain ⟨t0, t1, t2⟩ := reqCells_at _ k hk2
    have c0 := hcx _ _ t0
    have c1 := hcx _ _ t1
    have c2 := hcx _ _ t2
    rw [← e1] at c0 c1 c2
    have c1' : w1.cell? ⟨b, off + k * 3 + 1, none⟩ = some (.int .i64 (reqAt face k).2.1) := c1
    have c2' : w1.cell? ⟨b, off + k * 3 + 2, none⟩ = some (.bool (reqAt face k).2.2) := c2
    clear e0 e1 t0 t1 t2 hcx c1 c2 hk2
    go_wp2
    have hfin := HF.out (.string (reqAt face k).1) (.int .i64 (reqAt face k).2.1) (.bool (reqAt face k).2.2)
    refine bodyPost_ret (asked_res _ _ w.heap.size _ _ _ _ rfl rfl hfin.1) rfl ?_
    rw [HE0.out]
    exact ⟨rfl, hfin.2⟩

theorem below_after {w w1 : World} {o : Obj} (h : Below w.heap.size w w1) : Below w.heap.size w (w1.alloc o) := h.alloc h.size o

set_option maxHeartbeats 800000 in
theorem request_any (A : Nat → Addr) (S : List Nat) (h6 : 6 ∈ S) (face op : Int) (w : World) (hE : Errs w w.heap.size S A) : Calls Tryd.prog 39 #[.int .i64 face, .int .i64 op] w fun e w' =>
    e = .returned (.tuple #[.string (reqAt face op).1, errV A (reqErr face op)]) ∧ Below w.heap.size w w' := by
  have HE := Lib.hid hE
  clear hE
  go_enter Tryd.func39, Tryd.ntmps39
  go_wp2_with fail
  refine (asked_any face op _).mono ?_
  rintro e w1 ⟨rfl, hb1⟩
  have HB := Lib.hid hb1
  have c6 : w1.cell? ⟨7, 0, none⟩ = some (.iface 120 (.pointer (some (A 6)))) := (HE.out.to hb1 hb1.size).var h6
  have hlt : 7 < w1.heap.size := World.block_lt_of_cell? _ _ c6
  have hr0 : Hid (reqOk face op = false → (reqAt face op).1 = ⟨#[]⟩ ∧ reqErr face op = 6) := fun h => ⟨by simp [reqAt, h, req0], by simp [reqErr, h]⟩
  have hr1 : Hid (reqOk face op = true → reqErr face op = 0) := fun h => by simp [reqErr, h]
  clear hb1
  rcases hq : reqOk face op
  · have HQ := Lib.hid (hr0.out hq)
    clear hq hr0 hr1
    go_wp2
    go_quiet (fail)
    all_goals (try go_wp2)
    all_goals go_ret2
    rw [HQ.out.1, HQ.out.2]
    exact ⟨rfl, below_drewN (below_after HB.out) _⟩
  · have HQ := Lib.hid (hr1.out hq)
    clear hq hr0 hr1
    go_wp2
    go_ret2
    rw [HQ.out]
    exact ⟨rfl, below_after HB.out⟩
set_option maxHeartbeats 800000 in
theorem makes_any (face op : Int) (w : World) : Calls Tryd.prog 44 #[.int .i64 face, .int .i64 op] w fun e w' => e = .returned (.int .i64 (reqAt face op).2.1) ∧ Below w.heap.size w w' := by
  go_enter Tryd.func44, Tryd.ntmps44
  go_wp2_with fail
  refine (asked_any face op _).mono ?_
  rintro e w1 ⟨rfl, hb1⟩
  have HB := Lib.hid hb1
  clear hb1
  go_wp2
  go_ret
  exact ⟨rfl, below_after HB.out⟩
set_option maxHeartbeats 800000 in
theorem ends_any (face op : Int) (w : World) : Calls Tryd.prog 45 #[.int .i64 face, .int .i64 op] w fun e w' => e = .returned (.bool (reqAt face op).2.2) ∧ Below w.heap.size w w' := by
  go_enter Tryd.func45, Tryd.ntmps45
  go_wp2_with fail
  refine (asked_any face op _).mono ?_
  rintro e w1 ⟨rfl, hb1⟩
  have HB := Lib.hid hb1
  clear hb1
  go_wp2
  go_ret
  exact ⟨rfl, below_after HB.out⟩
set_option maxHeartbeats 800000 in
theorem name_any (face : Int) (w : World) : Calls Tryd.prog 47 #[.int .i64 face] w fun e w' => e = .returned (.string (nameOf (fc face))) ∧ Below w.heap.size w w' := by
  have hfld := field_name
  go_enter Tryd.func47, Tryd.ntmps47
  go_wp2_with fail
  refine (of_any face _).mono ?_
  rintro e w1 ⟨r, ev, rfl, hk, hb1⟩
  have HB := Lib.hid hb1
  clear hb1 hk
  go_wp2
  go_ret
  exact ⟨rfl, HB.out⟩
set_option maxHeartbeats 800000 in
theorem event_any (A : Nat → Addr) (S : List Nat) (h6 : 6 ∈ S) (face op : Int) (w : World) (hE : Errs w w.heap.size S A) : Calls Tryd.prog 40 #[.int .i64 face, .int .i64 op] w fun e w' =>
    e = .returned (.tuple #[.string (evAt face op), errV A (evErr face op)]) ∧ Below w.heap.size w w' := by
  have HE := Lib.hid hE
  clear hE
  obtain ⟨ln, hln⟩ : ∃ n, n = (evsOf (fc face)).length := ⟨_, rfl⟩
  have hca : op < 0 ∨ (0 ≤ op ∧ (ln : Int) ≤ op) ∨ ∃ k : Nat, op = k ∧ k < ln := by
    rcases Int.lt_or_le op 0 with h | h
    · exact .inl h
    · rcases Int.lt_or_le op ln with h2 | h2
      · exact .inr (.inr ⟨op.toNat, by omega, by omega⟩)
      · exact .inr (.inl ⟨h, h2⟩)
  have hno : Hid (∀ o : Int, (o < 0 ∨ (ln : Int) ≤ o) → evErr face o = 6 ∧ evAt face o = ⟨#[]⟩) := fun o ho => by
    have : evOk face o = false := by unfold evOk; rw [← hln]; simp; omega
    exact ⟨by simp [evErr, this], by simp [evAt, this]⟩
  have hyes : Hid (∀ (k : Nat) (h : k < (evsOf (fc face)).length), evErr face k = 0 ∧ evAt face k = (evsOf (fc face))[k]) := fun k h => by
    have : evOk face k = true := by unfold evOk; simp; omega
    refine ⟨by simp [evErr, this], ?_⟩
    simp [evAt, this, h]
  have hlnm : ln ≤ 6 := by have := reqs_small (fc face) (fc_lt face); omega
  have HLN := Lib.hid hln
  clear hln
  have hfld := field_evs
  go_enter Tryd.func40, Tryd.ntmps40
  go_wp2_with fail
  refine (of_any face _).mono ?_
  rintro e w1 ⟨r, ev, rfl, hk, hb1⟩
  have HB := Lib.hid hb1
  have c6 : w1.cell? ⟨7, 0, none⟩ = some (.iface 120 (.pointer (some (A 6)))) := (HE.out.to hb1 hb1.size).var h6
  obtain ⟨_, ea, ec, he, hec, _, _, hex⟩ := hk.2
  rw [← HLN.out] at he hec hex
  have HEX := Lib.hid hex
  subst he
  obtain ⟨ra, rc, hr, _⟩ := hk.1.form
  subst hr
  clear hex hk hb1
  rcases hca with h1 | ⟨h1, h2⟩ | ⟨k, rfl, h1⟩
  · have hd : decide (op < 0) = true := by simpa using h1
    obtain ⟨e0, e1⟩ := hno.out op (.inl h1)
    have HE0 := Lib.hid (And.intro e0 e1)
    clear e0 e1 h1
    go_wp2
    go_quiet (fail)
    all_goals (try go_wp2)
    all_goals go_ret2
    rw [HE0.out.1, HE0.out.2]
    exact ⟨rfl, below_drewN HB.out _⟩
  · have hd : decide ((ln : Int) ≤ op) = true := by simpa using h2
    obtain ⟨e0, e1⟩ := hno.out op (.inr h2)
    have HE0 := Lib.hid (And.intro e0 e1)
    clear e0 e1
    go_wp2
    go_quiet (fail)
    all_goals (try go_wp2)
    all_goals go_ret2
    rw [HE0.out.1, HE0.out.2]
    exact ⟨rfl, below_drewN HB.out _⟩
  · have hk2 : k < (evsOf (fc face)).length := by rw [← HLN.out]; exact h1
    obtain ⟨e0, e1⟩ := hyes.out k hk2
    have HE0 := Lib.hid e0
    obtain ⟨b, off, rfl, _, hcx⟩ := HEX.out (by omega)
    have c0 := hcx k (.string (evAt face k)) (by rw [e1]; simp [hk2])
    clear e0 e1 hcx
    go_wp2
    go_ret2
    rw [HE0.out]
    exact ⟨rfl, HB.out⟩
end Go.Proofs.YtagjmkgbfbaekaaDoor
