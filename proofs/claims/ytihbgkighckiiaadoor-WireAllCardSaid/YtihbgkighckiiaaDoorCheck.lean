/- wire.Check and the document's. No condition but that the errors stand in memory. -/
import Derived.Test.YtihbgkighckiiaaDoorRSuch
import Derived.Test.YtihbgkighckiiaaDoorErr
import Derived.Test.YtihbgkighckiiaaDoorLater
namespace Go.Proofs.YtihbgkighckiiaaDoor
open Go.RowKit
set_option maxRecDepth 100000

/-- An argument: its letter, its number, its text. -/
abbrev ArgD := Int × Int × ByteArray
def argCells (l : List ArgD) : List Value := l.flatMap fun x => [.int .u8 x.1, .int .i64 x.2.1, .string x.2.2]
theorem argCells_length (l : List ArgD) : (argCells l).length = l.length * 3 := by
  induction l with
  | nil => rfl
  | cons x l ih => simp only [argCells, List.flatMap_cons, List.length_append, List.length_cons, List.length_nil] at *; omega
theorem argCells_at (l : List ArgD) : ∀ (k : Nat) (h : k < l.length), (argCells l)[k * 3]? = some (.int .u8 l[k].1) ∧ (argCells l)[k * 3 + 1]? = some (.int .i64 l[k].2.1) ∧ (argCells l)[k * 3 + 2]? = some (.string l[k].2.2) := by
  induction l with
  | nil => intro k h; simp at h
  | cons x l ih =>
    intro k h
    have e : argCells (x :: l) = [.int .u8 x.1, .int .i64 x.2.1, .string x.2.2] ++ argCells l := by simp [argCells]
    rcases k with _ | k
    · exact ⟨rfl, rfl, rfl⟩
    · obtain ⟨h1, h2, h3⟩ := ih k (by simpa using h)
      rw [e]
      have e1 : (k + 1) * 3 = k * 3 + 3 := by omega
      rw [e1]
      refine ⟨?_, ?_, ?_⟩
      · rw [List.getElem?_append_right (by simp)]; simpa using h1
      · rw [List.getElem?_append_right (by simp)]; simpa using h2
      · rw [List.getElem?_append_right (by simp)]; simpa using h3
def ArgsIs (w : World) (v : Value) (l : List ArgD) : Prop := SlN w w.heap.size 3 v l.length (argCells l)
theorem ArgsIs.below {w w' : World} {v : Value} {l : List ArgD} (h : ArgsIs w v l) (hb : Below w.heap.size w w') : ArgsIs w' v l := (SlN.below h hb).more hb.size
/-- All texts fit. -/
def Fit (l : List ArgD) : Prop := ∀ x ∈ l, x.2.2.size ≤ 140737488351232
/-- Each argument is such as its letter says. -/
def okArgs : List ArgD → List UInt8 → Bool
  | [], [] => true
  | x :: l, c :: cs => decide (x.1 = c.toNat) && suchB x.1 x.2.1 x.2.2 && okArgs l cs
  | _, _ => false
def headOk (o p : Int) (n m : Nat) : Bool := decide (1 ≤ o ∧ o ≤ 4294967295 ∧ 0 ≤ p ∧ p < 65536 ∧ n = m)
def checkB (o p : Int) (l : List ArgD) (sig : ByteArray) : Bool := headOk o p l.length sig.size && okArgs l sig.data.toList
def checkE (o p : Int) (l : List ArgD) (sig : ByteArray) : Nat := if checkB o p l sig then 0 else 1
theorem checkE_le (o p : Int) (l : List ArgD) (sig : ByteArray) : checkE o p l sig ≤ 1 := by unfold checkE; split <;> omega
theorem okArgs_step (l : List ArgD) (s : List UInt8) (i : Nat) (h1 : i < l.length) (h2 : i < s.length) : okArgs (l.drop i) (s.drop i) = (decide (l[i].1 = s[i].toNat) && suchB l[i].1 l[i].2.1 l[i].2.2 && okArgs (l.drop (i + 1)) (s.drop (i + 1))) := by
  rw [List.drop_eq_getElem_cons h1, List.drop_eq_getElem_cons h2]; rfl
theorem byte_get (s : ByteArray) (i : Nat) (h : i < s.size) : s.data.toList[i]'(by rw [Array.length_toList]; exact h) = s[i] := by rw [Array.getElem_toList]; rfl

def CheckRel (w : World) (l : List ArgD) (sig : ByteArray) (a : Value) (wr : World) : Prop := ∃ i : Nat, i ≤ l.length ∧ a = .int .i64 i ∧ okArgs l sig.data.toList = okArgs (l.drop i) (sig.data.toList.drop i) ∧ Below w.heap.size w wr
theorem head_cases (o p : Int) (n m : Nat) (h : headOk o p n m = false) : o < 1 ∨ (1 ≤ o ∧ 4294967295 < o) ∨ (1 ≤ o ∧ o ≤ 4294967295 ∧ p < 0) ∨ (1 ≤ o ∧ o ≤ 4294967295 ∧ 0 ≤ p ∧ 65536 ≤ p) ∨ (1 ≤ o ∧ o ≤ 4294967295 ∧ 0 ≤ p ∧ p < 65536 ∧ n ≠ m) := by
  unfold headOk at h; simp only [decide_eq_false_iff_not] at h; omega

set_option maxHeartbeats 3200000 in
theorem check_any (A : Nat → Addr) (S : List Nat) (h1 : 1 ∈ S) (o p : Int) (v : Value) (l : List ArgD) (sig : ByteArray) (w : World) (hE : Errs w w.heap.size S A) (hv : ArgsIs w v l) (hF : Fit l) (hs : sig.size ≤ 140737488351232) :
    Calls Tryd.prog 14 #[.agg #[.int .i64 o, .int .i64 p, v], .string sig] w fun e w' => e = .returned (errV A (checkE o p l sig)) ∧ Below w.heap.size w w' := by
  have HE := Lib.hid hE
  have HF := Lib.hid hF
  obtain ⟨_, Ad, c, rfl, hc, hm, _, hx⟩ := hv
  obtain ⟨n, hn⟩ : ∃ n, n = l.length := ⟨_, rfl⟩
  rw [← hn] at hc hx ⊢
  have HX := Lib.hid hx
  have HN := Lib.hid hn
  unfold maxLen at hm
  have hz1 : Below w.heap.size w (w.alloc (.cells #[.int .i64 o, .int .i64 p, .slice Ad n c] 29)) := (Below.refl _ _).alloc (Nat.le_refl _) _
  have c1 : ∀ w1, Below w.heap.size w w1 → w1.cell? ⟨0, 0, none⟩ = some (.iface 121 (.pointer (some (A 1)))) := fun w1 hb => (hE.to hb hb.size).var h1
  have hc1 := c1 _ hz1
  have C1 := Lib.hid c1
  have hno : Hid (checkB o p l sig = false → errV A (checkE o p l sig) = .iface 121 (.pointer (some (A 1)))) := fun h => by
    unfold checkE; rw [h]; exact errV_pos A (k := 1) (by omega)
  have hyes : Hid (checkB o p l sig = true → errV A (checkE o p l sig) = .nilIface) := fun h => by
    unfold checkE; rw [h]; rfl
  have HZ := Lib.hid hz1
  cases hh : headOk o p n sig.size with
  | false =>
    have hcb := Lib.hid (hno.out (by unfold checkB; rw [← hn, hh]; rfl))
    have hca := head_cases o p n sig.size hh
    clear hh hn hE hx hz1 c1
    rcases hca with q | ⟨q, q2⟩ | ⟨q, q2, q3⟩ | ⟨q, q2, q3, q4⟩ | ⟨q, q2, q3, q4, q5⟩
    · have d1 : decide (o < 1) = true := by simpa using q
      go_enter Tryd.func14, Tryd.ntmps14
      go_wp2
      go_ret
      rw [hcb.out]; exact ⟨rfl, HZ.out⟩
    · have d1 : decide (o < 1) = false := by simpa using q
      have d2 : decide (4294967295 < o) = true := by simpa using q2
      go_enter Tryd.func14, Tryd.ntmps14
      go_wp2
      go_ret
      rw [hcb.out]; exact ⟨rfl, HZ.out⟩
    · have d1 : decide (o < 1) = false := by simpa using q
      have d2 : decide (4294967295 < o) = false := by simpa using q2
      have d3 : decide (p < 0) = true := by simpa using q3
      go_enter Tryd.func14, Tryd.ntmps14
      go_wp2
      go_ret
      rw [hcb.out]; exact ⟨rfl, HZ.out⟩
    · have d1 : decide (o < 1) = false := by simpa using q
      have d2 : decide (4294967295 < o) = false := by simpa using q2
      have d3 : decide (p < 0) = false := by simpa using q3
      have d4 : decide (65536 ≤ p) = true := by simpa using q4
      go_enter Tryd.func14, Tryd.ntmps14
      go_wp2
      go_ret
      rw [hcb.out]; exact ⟨rfl, HZ.out⟩
    · have d1 : decide (o < 1) = false := by simpa using q
      have d2 : decide (4294967295 < o) = false := by simpa using q2
      have d3 : decide (p < 0) = false := by simpa using q3
      have d4 : decide (65536 ≤ p) = false := by simpa using q4
      have d5 : ((n : Int) != (sig.size : Int)) = true := by rw [bne_iff_ne]; omega
      clear q5
      go_enter Tryd.func14, Tryd.ntmps14
      go_wp2
      go_ret
      rw [hcb.out]; exact ⟨rfl, HZ.out⟩
  | true =>
    have hh' : 1 ≤ o ∧ o ≤ 4294967295 ∧ 0 ≤ p ∧ p < 65536 ∧ n = sig.size := by unfold headOk at hh; simpa using hh
    have hcb : Hid (checkB o p l sig = okArgs l sig.data.toList) := by show _ = _; unfold checkB; rw [← hn, hh, Bool.true_and]
    obtain ⟨q, q2, q3, q4, q5⟩ := hh'
    have d1 : decide (o < 1) = false := by simpa using q
    have d2 : decide (4294967295 < o) = false := by simpa using q2
    have d3 : decide (p < 0) = false := by simpa using q3
    have d4 : decide (65536 ≤ p) = false := by simpa using q4
    have d5 : ((n : Int) != (sig.size : Int)) = false := by rw [bne_eq_false_iff_eq]; omega
    have HSZ := Lib.hid q5
    clear hh hn hE hx hz1 c1 q q2 q3 q4 q5
    go_enter Tryd.func14, Tryd.ntmps14
    go_wp2_with fail
    go_loopw [37] (CheckRel w l sig) (fun a _ => n - (intOf a).toNat)
    case atStart => exact ⟨0, Nat.zero_le _, rfl, rfl, HZ.out⟩
    case round =>
      clear hc1
      obtain ⟨i, hi, rfl, hok, hb⟩ := hrel
      have hin : i ≤ n := by rw [HN.out]; exact hi
      have HOK := Lib.hid hok
      have HB := Lib.hid hb
      clear hok hb hi
      by_cases hlt : i < n
      · have hil : i < l.length := by rw [← HN.out]; exact hlt
        have his : i < sig.size := by rw [← HSZ.out]; exact hlt
        obtain ⟨b, off, rfl, hB, hx⟩ := HX.out (by omega)
        obtain ⟨t0, t1, t2⟩ := argCells_at l i hil
        have hstep := okArgs_step l sig.data.toList i hil (by rw [Array.length_toList]; exact his)
        have hfx := HF.out _ (List.getElem_mem hil)
        have hfx' : l[i].2.2.size ≤ 140737488351232 := hfx
        rw [byte_get sig i his] at hstep
        obtain ⟨k, hk⟩ : ∃ k, k = l[i].1 := ⟨_, rfl⟩
        obtain ⟨z, hz⟩ : ∃ k, k = l[i].2.1 := ⟨_, rfl⟩
        obtain ⟨s, hs2⟩ : ∃ k, k = l[i].2.2 := ⟨_, rfl⟩
        obtain ⟨y, hy⟩ : ∃ y : Nat, sig[i].toNat = y := ⟨_, rfl⟩
        rw [← hk] at t0 hstep
        rw [← hz] at t1 hstep
        rw [← hs2] at t2 hfx' hstep
        rw [hy] at hstep
        have g0 : wr.cell? ⟨b, off + i * 3, none⟩ = some (.int .u8 k) := (HB.out.cell (p := ⟨b, off + i * 3, none⟩) hB).trans (hx _ _ t0)
        have g1 : wr.cell? ⟨b, off + i * 3 + 1, none⟩ = some (.int .i64 z) := (HB.out.cell (p := ⟨b, off + i * 3 + 1, none⟩) hB).trans (hx _ _ t1)
        have g2 : wr.cell? ⟨b, off + i * 3 + 2, none⟩ = some (.string s) := (HB.out.cell (p := ⟨b, off + i * 3 + 2, none⟩) hB).trans (hx _ _ t2)
        have HST := Lib.hid hstep
        clear hfx t0 t1 t2 hx hk hz hs2 hstep
        go_wp2_with fail
        have hblk : Hid (Blk (wr.alloc (.cells #[.int .u8 k, .int .i64 z, .string s] 26)) wr.heap.size 26 #[.int .u8 k, .int .i64 z, .string s]) := Blk.new _ _ _
        have HB2 := Lib.hid (HB.out.alloc HB.out.size (.cells #[.int .u8 k, .int .i64 z, .string s] 26))
        generalize (wr.alloc (.cells #[.int .u8 k, .int .i64 z, .string s] 26)) = w2 at hblk HB2 ⊢
        generalize wr.heap.size = g at hblk ⊢
        have e0 : ∀ x : Later w2, x.w.cell? ⟨g, 0, none⟩ = some (.int .u8 k) := fun x => x.cell (hblk.out.cell 0)
        have e1 : ∀ x : Later w2, x.w.cell? ⟨g, 1, none⟩ = some (.int .i64 z) := fun x => x.cell (hblk.out.cell 1)
        have e2 : ∀ x : Later w2, x.w.cell? ⟨g, 2, none⟩ = some (.string s) := fun x => x.cell (hblk.out.cell 2)
        obtain ⟨sb, hsb⟩ : ∃ b, b = suchB k z s := ⟨_, rfl⟩
        rw [← hsb] at HST
        have SU : Hid (∀ x : Later w2, Calls Tryd.prog 36 #[.agg #[.int .u8 k, .int .i64 z, .string s]] x.w fun e w' => e = .returned (.bool sb) ∧ Below x.w.heap.size x.w w') := fun x => by
          rw [hsb]; exact such_any k z s x.w hfx'
        clear hsb
        by_cases hky : k = y
        · have d6 : (k != (y : Int)) = false := by rw [bne_eq_false_iff_eq]; exact hky
          have hst := HST.out
          rw [decide_eq_true hky, Bool.true_and] at hst
          clear hky
          rcases sb
          · have hf := Lib.hid (hno.out (by rw [hcb.out, HOK.out, hst]; rfl))
            clear hst
            refine wp_region_later_lit (by kernel_rfl) (by kernel_rfl) ?_
            repeat (any_goals (go_big_quiet_step (first | with_reducible exact later_call (SU.out _))))
            refine wpQuiet_nil ?_
            intro _ hw'
            obtain ⟨x, hw''⟩ := hw'
            subst hw''
            have hc1 := C1.out x.w (x.after HB2.out HB2.out.size)
            go_wp2_with fail
            go_ret
            rw [hf.out]
            exact ⟨rfl, x.after HB2.out HB2.out.size⟩
          · have hst' : Hid (okArgs l sig.data.toList = okArgs (l.drop (i + 1)) (sig.data.toList.drop (i + 1))) := by show _ = _; rw [HOK.out, hst]; rfl
            clear hst
            refine wp_region_later_lit (by kernel_rfl) (by kernel_rfl) ?_
            repeat (any_goals (go_big_quiet_step (first | with_reducible exact later_call (SU.out _))))
            refine wpQuiet_nil ?_
            intro _ hw'
            obtain ⟨x, hw''⟩ := hw'
            subst hw''
            go_wp2_with fail
            go_roundw
            case rel => exact ⟨i + 1, by rw [← HN.out]; omega, by go_num, hst'.out, x.after HB2.out HB2.out.size⟩
            case measure => simp [intOf]; omega
        · have d6 : (k != (y : Int)) = true := by rw [bne_iff_ne]; exact hky
          have hf := Lib.hid (hno.out (by rw [hcb.out, HOK.out, HST.out, decide_eq_false hky]; rfl))
          clear hky
          refine wp_region_later_lit (by kernel_rfl) (by kernel_rfl) ?_
          repeat (any_goals (go_big_quiet_step (fail)))
          refine wpQuiet_nil ?_
          intro _ hw'
          obtain ⟨x, hw''⟩ := hw'
          subst hw''
          have hc1 := C1.out x.w (x.after HB2.out HB2.out.size)
          go_wp2_with fail
          go_ret
          rw [hf.out]
          exact ⟨rfl, x.after HB2.out HB2.out.size⟩
      · have hf : Hid (errV A (checkE o p l sig) = .nilIface) := hyes.out (by
          rw [hcb.out, HOK.out, List.drop_of_length_le (by rw [← HN.out]; omega), List.drop_of_length_le (by rw [Array.length_toList]; have := HSZ.out; show sig.size ≤ i; omega)]; rfl)
        go_wp2_with fail
        go_ret
        rw [hf.out]
        exact ⟨rfl, HB.out⟩

set_option maxHeartbeats 3200000 in
theorem rcheck_any (o p : Int) (v : Value) (l : List ArgD) (sig : ByteArray) (w : World) (hv : ArgsIs w v l) (hF : Fit l) (hs : sig.size ≤ 140737488351232) :
    Calls Tryd.prog 28 #[.agg #[.int .i64 o, .int .i64 p, v], .string sig] w fun e w' => e = .returned (.int .i64 (checkE o p l sig)) ∧ Below w.heap.size w w' := by
  have HF := Lib.hid hF
  obtain ⟨_, Ad, c, rfl, hc, hm, _, hx⟩ := hv
  obtain ⟨n, hn⟩ : ∃ n, n = l.length := ⟨_, rfl⟩
  rw [← hn] at hc hx ⊢
  have HX := Lib.hid hx
  have HN := Lib.hid hn
  unfold maxLen at hm
  have hz1 : Below w.heap.size w (w.alloc (.cells #[.int .i64 o, .int .i64 p, .slice Ad n c] 29)) := (Below.refl _ _).alloc (Nat.le_refl _) _
  have hblk0 : Hid (Blk (w.alloc (.cells #[.int .i64 o, .int .i64 p, .slice Ad n c] 29)) w.heap.size 29 #[.int .i64 o, .int .i64 p, .slice Ad n c]) := Blk.new _ _ _
  have hno : Hid (checkB o p l sig = false → (checkE o p l sig : Int) = 1) := fun h => by
    unfold checkE; rw [h]; rfl
  have hyes : Hid (checkB o p l sig = true → (checkE o p l sig : Int) = 0) := fun h => by
    unfold checkE; rw [h]; rfl
  have HZ := Lib.hid hz1
  cases hh : headOk o p n sig.size with
  | false =>
    have hcb := Lib.hid (hno.out (by unfold checkB; rw [← hn, hh]; rfl))
    have hca := head_cases o p n sig.size hh
    clear hh hn hx hz1
    rcases hca with q | ⟨q, q2⟩ | ⟨q, q2, q3⟩ | ⟨q, q2, q3, q4⟩ | ⟨q, q2, q3, q4, q5⟩
    · have d1 : decide (o < 1) = true := by simpa using q
      go_enter Tryd.func28, Tryd.ntmps28
      go_wp2
      go_ret
      rw [hcb.out]; exact ⟨rfl, HZ.out⟩
    · have d1 : decide (o < 1) = false := by simpa using q
      have d2 : decide (4294967296 ≤ o) = true := by simp; omega
      go_enter Tryd.func28, Tryd.ntmps28
      go_wp2
      go_ret
      rw [hcb.out]; exact ⟨rfl, HZ.out⟩
    · have d1 : decide (o < 1) = false := by simpa using q
      have d2 : decide (4294967296 ≤ o) = false := by simp; omega
      have d3 : decide (p < 0) = true := by simpa using q3
      go_enter Tryd.func28, Tryd.ntmps28
      go_wp2
      go_ret
      rw [hcb.out]; exact ⟨rfl, HZ.out⟩
    · have d1 : decide (o < 1) = false := by simpa using q
      have d2 : decide (4294967296 ≤ o) = false := by simp; omega
      have d3 : decide (p < 0) = false := by simpa using q3
      have d4 : decide (65535 < p) = true := by simp; omega
      go_enter Tryd.func28, Tryd.ntmps28
      go_wp2
      go_ret
      rw [hcb.out]; exact ⟨rfl, HZ.out⟩
    · have d1 : decide (o < 1) = false := by simpa using q
      have d2 : decide (4294967296 ≤ o) = false := by simp; omega
      have d3 : decide (p < 0) = false := by simpa using q3
      have d4 : decide (65535 < p) = false := by simp; omega
      have d5 : ((n : Int) != (sig.size : Int)) = true := by rw [bne_iff_ne]; omega
      clear q5
      go_enter Tryd.func28, Tryd.ntmps28
      go_wp2
      go_ret
      rw [hcb.out]; exact ⟨rfl, HZ.out⟩
  | true =>
    have hh' : 1 ≤ o ∧ o ≤ 4294967295 ∧ 0 ≤ p ∧ p < 65536 ∧ n = sig.size := by unfold headOk at hh; simpa using hh
    have hcb : Hid (checkB o p l sig = okArgs l sig.data.toList) := by show _ = _; unfold checkB; rw [← hn, hh, Bool.true_and]
    obtain ⟨q, q2, q3, q4, q5⟩ := hh'
    have d1 : decide (o < 1) = false := by simpa using q
    have d2 : decide (4294967296 ≤ o) = false := by simp; omega
    have d3 : decide (p < 0) = false := by simpa using q3
    have d4 : decide (65535 < p) = false := by simp; omega
    have d5 : ((n : Int) != (sig.size : Int)) = false := by rw [bne_eq_false_iff_eq]; omega
    have HSZ := Lib.hid q5
    clear hh hn hx hz1 q q2 q3 q4 q5
    obtain ⟨g, hg⟩ : ∃ g, g = w.heap.size := ⟨_, rfl⟩
    rw [← hg] at hblk0
    have HG := Lib.hid hg
    have hgw : w.heap.size ≤ g := by omega
    clear hg
    go_enter Tryd.func28, Tryd.ntmps28
    go_wp2_with fail
    rw [← HG.out]
    generalize (w.alloc (.cells #[.int .i64 o, .int .i64 p, .slice Ad n c] 29)) = w1 at hblk0 HZ ⊢
    go_loopw [5] (fun a wr => CheckRel w l sig a wr ∧ Blk wr g 29 #[.int .i64 o, .int .i64 p, .slice Ad n c]) (fun a _ => n - (intOf a).toNat)
    case atStart => exact ⟨⟨0, Nat.zero_le _, rfl, rfl, HZ.out⟩, hblk0.out⟩
    case round =>
      obtain ⟨⟨i, hi, rfl, hok, hb⟩, hbk⟩ := hrel
      have hin : i ≤ n := by rw [HN.out]; exact hi
      have HOK := Lib.hid hok
      have HB := Lib.hid hb
      have HBK := Lib.hid hbk
      clear hok hb hi hbk
      by_cases hlt : i < n
      · have hil : i < l.length := by rw [← HN.out]; exact hlt
        have his : i < sig.size := by rw [← HSZ.out]; exact hlt
        obtain ⟨b, off, rfl, hB, hx⟩ := HX.out (by omega)
        obtain ⟨t0, t1, t2⟩ := argCells_at l i hil
        have hstep := okArgs_step l sig.data.toList i hil (by rw [Array.length_toList]; exact his)
        have hfx' : l[i].2.2.size ≤ 140737488351232 := HF.out _ (List.getElem_mem hil)
        rw [byte_get sig i his] at hstep
        obtain ⟨k, hk⟩ : ∃ k, k = l[i].1 := ⟨_, rfl⟩
        obtain ⟨z, hz⟩ : ∃ k, k = l[i].2.1 := ⟨_, rfl⟩
        obtain ⟨s, hs2⟩ : ∃ k, k = l[i].2.2 := ⟨_, rfl⟩
        obtain ⟨y, hy⟩ : ∃ y : Nat, sig[i].toNat = y := ⟨_, rfl⟩
        rw [← hk] at t0 hstep
        rw [← hz] at t1 hstep
        rw [← hs2] at t2 hfx' hstep
        rw [hy] at hstep
        have e0 : ∀ x : Later wr, x.w.cell? ⟨b, off + i * 3, none⟩ = some (.int .u8 k) := fun x => x.cell ((HB.out.cell (p := ⟨b, off + i * 3, none⟩) hB).trans (hx _ _ t0))
        have e1 : ∀ x : Later wr, x.w.cell? ⟨b, off + i * 3 + 1, none⟩ = some (.int .i64 z) := fun x => x.cell ((HB.out.cell (p := ⟨b, off + i * 3 + 1, none⟩) hB).trans (hx _ _ t1))
        have e2 : ∀ x : Later wr, x.w.cell? ⟨b, off + i * 3 + 2, none⟩ = some (.string s) := fun x => x.cell ((HB.out.cell (p := ⟨b, off + i * 3 + 2, none⟩) hB).trans (hx _ _ t2))
        have e3 : ∀ x : Later wr, x.w.cell? ⟨g, 2, none⟩ = some (.slice (some ⟨b, off, none⟩) n c) := fun x => x.cell (HBK.out.cell 2)
        obtain ⟨rb, hrb⟩ : ∃ q, q = (decide (k = (y : Int)) && suchB k z s) := ⟨_, rfl⟩
        rw [← hrb] at hstep
        have SU : Hid (∀ x : Later wr, Calls Tryd.prog 47 #[.agg #[.int .u8 k, .int .i64 z, .string s], .int .u8 (y : Int)] x.w fun e w' => e = .returned (.bool rb) ∧ Below x.w.heap.size x.w w') := fun x => by
          rw [hrb]; exact rsuch_any k y z s x.w hfx'
        have HST := Lib.hid hstep
        clear t0 t1 t2 hx hk hz hs2 hrb hstep
        have hst := HST.out
        rcases rb
        · have hf := Lib.hid (hno.out (by rw [hcb.out, HOK.out, hst]; rfl))
          clear hst
          go_wp2_with fail
          refine wp_region_later_lit (by kernel_rfl) (by kernel_rfl) ?_
          repeat (any_goals (go_big_quiet_step (first | with_reducible exact later_call (SU.out _))))
          refine wpQuiet_nil ?_
          intro _ hw'
          obtain ⟨x, hw''⟩ := hw'
          subst hw''
          go_wp2_with fail
          go_ret
          rw [hf.out]
          exact ⟨rfl, x.after HB.out HB.out.size⟩
        · have hst' : Hid (okArgs l sig.data.toList = okArgs (l.drop (i + 1)) (sig.data.toList.drop (i + 1))) := by show _ = _; rw [HOK.out, hst]; rfl
          clear hst
          go_wp2_with fail
          refine wp_region_later_lit (by kernel_rfl) (by kernel_rfl) ?_
          repeat (any_goals (go_big_quiet_step (first | with_reducible exact later_call (SU.out _))))
          refine wpQuiet_nil ?_
          intro _ hw'
          obtain ⟨x, hw''⟩ := hw'
          subst hw''
          go_wp2_with fail
          go_roundw
          case rel => exact ⟨⟨i + 1, by rw [← HN.out]; omega, by go_num, hst'.out, x.after HB.out HB.out.size⟩, HBK.out.below x.h HBK.out.lt⟩
          case measure => simp [intOf]; omega
      · have hf : Hid ((checkE o p l sig : Int) = 0) := hyes.out (by
          rw [hcb.out, HOK.out, List.drop_of_length_le (by rw [← HN.out]; omega), List.drop_of_length_le (by rw [Array.length_toList]; have := HSZ.out; show sig.size ≤ i; omega)]; rfl)
        have hge : sig.size ≤ i := by have := HSZ.out; omega
        go_wp2_with fail
        go_ret
        rw [hf.out]
        exact ⟨rfl, HB.out⟩
end Go.Proofs.YtihbgkighckiiaaDoor
