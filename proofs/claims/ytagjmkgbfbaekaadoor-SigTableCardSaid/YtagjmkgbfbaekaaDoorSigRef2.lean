/- tableauref03.Request, Event, Name, Face: what they answer: as the code does. No condition. -/
import Derived.Test.YtagjmkgbfbaekaaDoorSigRef
namespace Go.Proofs.YtagjmkgbfbaekaaDoor
open Go.RowKit
set_option maxRecDepth 100000

/-- What 'asked' hands back. -/
theorem rreq_res (tmps : Array Value) (w : World) (g : Nat) (x y z u : Value) (hp : tmps.getD 4 undef = .pointer (some ⟨g, 0, none⟩)) (hu : tmps.getD 5 undef = u) (h : Blk w g 75 #[x, y, z]) :
    (results Tryd.f42 tmps).run Tryd.prog w = .ok (.tuple #[.agg #[x, y, z], u]) w := by
  rw [results_cell_tmp rfl, hp, hu]
  have := run_loadVar_row (P := Tryd.prog) w g 75 75 #[x, y, z] (0, 0) _ h Tryd.underlying75 rfl (by kernel_rfl)
  simp [asAddr, this, Result.andThen]

set_option maxHeartbeats 1600000 in
theorem rrequest_any (face op : Int) (w : World) : Calls Tryd.prog 42 #[.int .i64 face, .int .i64 op] w fun e w' =>
    e = .returned (.tuple #[.agg #[.string (reqAt face op).1, .int .i64 (reqAt face op).2.1, .bool (reqAt face op).2.2], .bool (reqOk face op)]) ∧ Below w.heap.size w w' := by
  obtain ⟨ln, hln⟩ : ∃ n, n = (reqsOf (fc face)).length := ⟨_, rfl⟩
  have hca : op < 0 ∨ (0 ≤ op ∧ (ln : Int) ≤ op) ∨ ∃ k : Nat, op = k ∧ k < ln := by
    rcases Int.lt_or_le op 0 with h | h
    · exact .inl h
    · rcases Int.lt_or_le op ln with h2 | h2
      · exact .inr (.inr ⟨op.toNat, by omega, by omega⟩)
      · exact .inr (.inl ⟨h, h2⟩)
  have hno : Hid (∀ o : Int, (o < 0 ∨ (ln : Int) ≤ o) → reqOk face o = false ∧ reqAt face o = req0) := fun o ho => by
    have : reqOk face o = false := by unfold reqOk; rw [← hln]; simp; omega
    exact ⟨this, by simp [reqAt, this]⟩
  have hyes : Hid (∀ (k : Nat) (h : k < (reqsOf (fc face)).length), reqOk face k = true ∧ reqAt face k = (reqsOf (fc face))[k]) := fun k h => by
    have : reqOk face k = true := by unfold reqOk; simp; omega
    refine ⟨this, ?_⟩
    simp [reqAt, this, h]
  have hlnm : ln ≤ 6 := by have := reqs_small (fc face) (fc_lt face); omega
  have HLN := Lib.hid hln
  clear hln
  go_enter Tryd.func42, Tryd.ntmps42
  go_wp2_with fail
  refine (rrequests_any face _).mono ?_
  rintro e w1 ⟨r, rfl, hk, hb1⟩
  have hg0 := Blk.below (Blk.new w 75 #[.string ⟨#[]⟩, .int .i64 0, .bool false]) hb1 (by simp)
  have hb2 : Below w.heap.size w w1 := ((Below.refl _ _).alloc (Nat.le_refl _) _).trans (hb1.mono (by simp))
  have HG := Lib.hid hg0
  have HB2 := Lib.hid hb2
  have gc0 := hg0.cell 0
  have gc1 := hg0.cell 1
  have gc2 := hg0.cell 2
  have gf0 := hg0.frozen 0
  have gf1 := hg0.frozen 1
  have gf2 := hg0.frozen 2
  simp at gc0 gc1 gc2
  have HK := Lib.hid hk
  obtain ⟨_, ra, rc, hr, hrc, _, _, hrx⟩ := hk
  rw [← HLN.out] at hr hrc hrx
  have HRX := Lib.hid hrx
  subst hr
  have HF : Hid (∀ s r e : Value, Blk (((w1.setCell ⟨w.heap.size, 0, none⟩ s).setCell ⟨w.heap.size, 1, none⟩ r).setCell ⟨w.heap.size, 2, none⟩ e) w.heap.size 75 #[s, r, e] ∧ Below w.heap.size w (((w1.setCell ⟨w.heap.size, 0, none⟩ s).setCell ⟨w.heap.size, 1, none⟩ r).setCell ⟨w.heap.size, 2, none⟩ e)) := by
    intro s r e
    refine ⟨by simpa using ((HG.out.set_ 0 s).set_ 1 r).set_ 2 e, below_of_only HB2.out (only_set (only_set (only_set (only_refl w1 (some w.heap.size)) 0 s) 1 r) 2 e) HB2.out.size (Nat.le_refl _)⟩
  clear hrx hg0 hb2 hb1
  rcases hca with h1 | ⟨h1, h2⟩ | ⟨k, rfl, h1⟩
  · have hd : decide (op < 0) = true := by simpa using h1
    obtain ⟨e0, e1⟩ := hno.out op (.inl h1)
    have HE0 := Lib.hid (And.intro e0 e1)
    clear e0 e1 h1
    go_wp2
    have hfin := HF.out (.string ⟨#[]⟩) (.int .i64 0) (.bool false)
    refine bodyPost_ret (rreq_res _ _ w.heap.size _ _ _ _ rfl rfl hfin.1) rfl ?_
    rw [HE0.out.1, HE0.out.2]
    exact ⟨rfl, hfin.2⟩
  · have hd : decide ((ln : Int) ≤ op) = true := by simpa using h2
    obtain ⟨e0, e1⟩ := hno.out op (.inr h2)
    have HE0 := Lib.hid (And.intro e0 e1)
    clear e0 e1
    go_wp2
    have hfin := HF.out (.string ⟨#[]⟩) (.int .i64 0) (.bool false)
    refine bodyPost_ret (rreq_res _ _ w.heap.size _ _ _ _ rfl rfl hfin.1) rfl ?_
    rw [HE0.out.1, HE0.out.2]
    exact ⟨rfl, hfin.2⟩
  · have hk2 : k < (reqsOf (fc face)).length := by rw [← HLN.out]; exact h1
    obtain ⟨e0, e1⟩ := hyes.out k hk2
    have HE0 := Lib.hid e0
    obtain ⟨b, off, rfl, _, hcx⟩ := HRX.out (by omega)
    obtain ⟨t0, t1, t2⟩ := reqCells_at _ k hk2
    have c0 := hcx _ _ t0
    have c1 := hcx _ _ t1
    have c2 := hcx _ _ t2
    rw [← e1] at c0 c1 c2
    have c1' : w1.cell? ⟨b, off + k * 3 + 1, none⟩ = some (.int .i64 (reqAt face k).2.1) := c1
    have c2' : w1.cell? ⟨b, off + k * 3 + 2, none⟩ = some (.bool (reqAt face k).2.2) := c2
    clear e0 e1 t0 t1 t2 hcx c1 c2 hk2
    go_wp2
    have hfin := HF.out (.string (reqAt face k).1) (.int .i64 (reqAt face k).2.1) (.bool (reqAt face k).2.2)
    refine bodyPost_ret (rreq_res _ _ w.heap.size _ _ _ _ rfl rfl hfin.1) rfl ?_
    rw [HE0.out]
    exact ⟨rfl, hfin.2⟩


set_option maxHeartbeats 800000 in
theorem revent_any (face op : Int) (w : World) : Calls Tryd.prog 43 #[.int .i64 face, .int .i64 op] w fun e w' =>
    e = .returned (.tuple #[.string (evAt face op), .bool (evOk face op)]) ∧ Below w.heap.size w w' := by
  obtain ⟨ln, hln⟩ : ∃ n, n = (evsOf (fc face)).length := ⟨_, rfl⟩
  have hca : op < 0 ∨ (0 ≤ op ∧ (ln : Int) ≤ op) ∨ ∃ k : Nat, op = k ∧ k < ln := by
    rcases Int.lt_or_le op 0 with h | h
    · exact .inl h
    · rcases Int.lt_or_le op ln with h2 | h2
      · exact .inr (.inr ⟨op.toNat, by omega, by omega⟩)
      · exact .inr (.inl ⟨h, h2⟩)
  have hno : Hid (∀ o : Int, (o < 0 ∨ (ln : Int) ≤ o) → evOk face o = false ∧ evAt face o = ⟨#[]⟩) := fun o ho => by
    have : evOk face o = false := by unfold evOk; rw [← hln]; simp; omega
    exact ⟨this, by simp [evAt, this]⟩
  have hyes : Hid (∀ (k : Nat) (h : k < (evsOf (fc face)).length), evOk face k = true ∧ evAt face k = (evsOf (fc face))[k]) := fun k h => by
    have : evOk face k = true := by unfold evOk; simp; omega
    refine ⟨this, ?_⟩
    simp [evAt, this, h]
  have hlnm : ln ≤ 6 := by have := reqs_small (fc face) (fc_lt face); omega
  have HLN := Lib.hid hln
  clear hln
  go_enter Tryd.func43, Tryd.ntmps43
  go_wp2_with fail
  refine (revents_any face _).mono ?_
  rintro e w1 ⟨r, rfl, hk, hb1⟩
  have HB := Lib.hid hb1
  obtain ⟨_, ea, ec, he, hec, _, _, hex⟩ := hk
  rw [← HLN.out] at he hec hex
  have HEX := Lib.hid hex
  subst he
  clear hex hb1
  rcases hca with h1 | ⟨h1, h2⟩ | ⟨k, rfl, h1⟩
  · have hd : decide (op < 0) = true := by simpa using h1
    obtain ⟨e0, e1⟩ := hno.out op (.inl h1)
    have HE0 := Lib.hid (And.intro e0 e1)
    clear e0 e1 h1
    go_wp2
    go_ret2
    rw [HE0.out.1, HE0.out.2]
    exact ⟨rfl, HB.out⟩
  · have hd : decide ((ln : Int) ≤ op) = true := by simpa using h2
    obtain ⟨e0, e1⟩ := hno.out op (.inr h2)
    have HE0 := Lib.hid (And.intro e0 e1)
    clear e0 e1
    go_wp2
    go_ret2
    rw [HE0.out.1, HE0.out.2]
    exact ⟨rfl, HB.out⟩
  · have hk2 : k < (evsOf (fc face)).length := by rw [← HLN.out]; exact h1
    obtain ⟨e0, e1⟩ := hyes.out k hk2
    have HE0 := Lib.hid e0
    obtain ⟨b, off, rfl, _, hcx⟩ := HEX.out (by omega)
    have c0 := hcx k (.string (evAt face k)) (by rw [e1]; simp [hk2])
    clear e0 e1 hcx
    go_wp2
    go_ret2
    rw [HE0.out]
    exact ⟨rfl, HB.out⟩
/-- The document's names, as they lie. -/
def NA : Array Value := ((List.range 17).map fun i => Value.string (nameOf (i + 1))).toArray
def NZ : Array Value := (Array.replicate 17 (Value.string ⟨#[]⟩))
theorem na_at (k : Nat) (h : k < 17) : NA[k]? = some (.string (nameOf (k + 1))) := by simp [NA, h]
theorem na_one : NA.all (·.oneCell') = true := by decide +kernel
set_option maxHeartbeats 1600000 in
theorem rname_any (face : Int) (w : World) : Calls Tryd.prog 48 #[.int .i64 face] w fun e w' => e = .returned (.string (nameOf (fc face))) ∧ Below w.heap.size w w' := by
  have hca : face < 1 ∨ (1 ≤ face ∧ 17 < face) ∨ ∃ f : Nat, face = f + 1 ∧ f < 17 := by
    rcases Int.lt_or_le face 1 with h | h
    · exact .inl h
    · rcases Int.lt_or_le 17 face with h2 | h2
      · exact .inr (.inl ⟨h, h2⟩)
      · exact .inr (.inr ⟨(face - 1).toNat, by omega, by omega⟩)
  have hno : Hid (∀ x : Int, x < 1 ∨ 17 < x → nameOf (fc x) = ⟨#[]⟩) := fun x hx => by
    by_cases h0 : x = 0
    · subst h0; rfl
    · have : fc x = 0 := by unfold fc; rw [if_neg (by omega)]
      rw [this]; rfl
  have hyes : Hid (∀ f : Nat, f < 17 → nameOf (fc ((f : Int) + 1)) = nameOf (f + 1)) := fun f hf => by
    have : fc ((f : Int) + 1) = f + 1 := by unfold fc; rw [if_pos (by omega)]; omega
    rw [this]
  go_enter Tryd.func48, Tryd.ntmps48
  go_upto_region 1 with (fail)
  go_upto_region 1 with (fail)
  rename_i K hK
  apply wp_region_lit
  refine wpList_val rfl (.agg NA) w (by kernel_rfl) ?_
  refine wpList_val rfl (.pointer (some ⟨w.heap.size, 0, none⟩)) (w.alloc (.cells NZ 104)) (by kernel_rfl) ?_
  refine wpList_skip rfl (w.alloc (.cells NA 104)) (run_store_of rfl (by kernel_rfl) (by kernel_rfl) (run_storeAt_new w 104 NZ NA (by kernel_rfl) rfl na_one)) ?_
  refine wpList_nil ?_
  refine hK _ _ ?_
  clear hK
  have hB : Hid (Blk (w.alloc (.cells NA 104)) w.heap.size 104 NA) := Blk.new _ _ _
  have HB : Hid (Below w.heap.size w (w.alloc (.cells NA 104))) := (Below.refl _ _).alloc (Nat.le_refl _) _
  obtain ⟨NB, hNB⟩ : ∃ NB, NB = NA := ⟨_, rfl⟩
  generalize (w.alloc (.cells NA 104)) = w1 at hB HB ⊢
  rw [← hNB]
  obtain ⟨g, hg⟩ : ∃ g, g = w.heap.size := ⟨_, rfl⟩
  rw [← hg] at hB ⊢
  clear hg
  have HNB := Lib.hid hNB
  clear hNB
  rcases hca with h1 | ⟨h1, h2⟩ | ⟨f, rfl, h1⟩
  · have hd : decide (face < 1) = true := by simpa using h1
    have HF := Lib.hid (hno.out face (.inl h1))
    clear h1
    go_wp2
    go_ret
    rw [HF.out]
    exact ⟨rfl, HB.out⟩
  · have hd : decide (face < 1) = false := by simp; omega
    have hd2 : decide (17 < face) = true := by simpa using h2
    have HF := Lib.hid (hno.out face (.inr h2))
    clear h1 h2
    go_wp2
    go_ret
    rw [HF.out]
    exact ⟨rfl, HB.out⟩
  · have hd : decide ((f : Int) + 1 < 1) = false := by simp; omega
    have hd2 : decide (17 < (f : Int) + 1) = false := by simp; omega
    have HF := Lib.hid (hyes.out f h1)
    have hc : w1.cell? ⟨g, f, none⟩ = some (.string (nameOf (f + 1))) := (hB.out.cell f).trans (na_at f h1)
    obtain ⟨nm, hnm⟩ : ∃ nm, nm = nameOf (f + 1) := ⟨_, rfl⟩
    rw [← hnm] at hc
    have HN := Lib.hid hnm
    clear hnm
    go_wp2
    go_ret
    rw [HF.out, ← HN.out]
    exact ⟨rfl, HB.out⟩

/-- The document's Face: the first number from 1 on. -/
def RFaceRel (w : World) (s : ByteArray) (a : Value) (wr : World) : Prop := ∃ i : Nat, 1 ≤ i ∧ i ≤ 18 ∧ a = .int .i64 i ∧ faceOf s = faceFrom s i (18 - i) ∧ Below w.heap.size w wr
theorem fc_nat (i : Nat) (h : i < 18) : fc i = i := by unfold fc; rw [if_pos (by omega)]; omega
set_option maxHeartbeats 1600000 in
theorem rface_any (s : ByteArray) (w : World) : Calls Tryd.prog 49 #[.string s] w fun e w' => e = .returned (.int .i64 (faceOf s)) ∧ Below w.heap.size w w' := by
  go_enter Tryd.func49, Tryd.ntmps49
  go_wp2_with fail
  go_loopw [3] (RFaceRel w s) (fun a _ => 18 - (intOf a).toNat)
  case atStart => exact ⟨1, by omega, by omega, rfl, rfl, Below.refl _ _⟩
  case round =>
    obtain ⟨i, hi1, hi, rfl, hf, hb⟩ := hrel
    have HB := Lib.hid hb
    have hbs := hb.size
    have HF := Lib.hid hf
    clear hb hf
    by_cases hlt : i ≤ 17
    · obtain ⟨nm, hnm⟩ : ∃ nm, nm = nameOf i := ⟨_, rfl⟩
      have HNM := Lib.hid hnm
      have hstep : Hid (faceFrom s i (18 - i) = if 0 < i ∧ nameOf i = s then i else faceFrom s (i + 1) (18 - (i + 1))) := by
        have : 18 - i = (18 - (i + 1)) + 1 := by omega
        show _ = _
        rw [this]; rfl
      have HFC := Lib.hid (fc_nat i (by omega))
      clear hnm
      go_wp2_with fail
      refine (rname_any i _).mono ?_
      rintro e w1 ⟨rfl, hb1⟩
      rw [HFC.out, ← HNM.out]
      have HB1 := Lib.hid (HB.out.trans (hb1.mono hbs))
      clear hb1
      by_cases hs : nm = s
      · have hfin : faceOf s = i := by rw [HF.out, hstep.out, if_pos ⟨by omega, by rw [← HNM.out]; exact hs⟩]
        have HFI := Lib.hid hfin
        have he := (by subst hs; simp : (nm.toList == s.toList) = true)
        clear hfin hs
        go_wp2_with fail
        go_ret
        rw [HFI.out]
        exact ⟨rfl, HB1.out⟩
      · have hfin : faceOf s = faceFrom s (i + 1) (18 - (i + 1)) := by rw [HF.out, hstep.out, if_neg (fun h => hs (by rw [HNM.out]; exact h.2))]
        have HFI := Lib.hid hfin
        have hne := str_ne hs
        clear hfin hs
        go_wp2_with fail
        go_roundw
        case rel => exact ⟨i + 1, by omega, by omega, by go_num, HFI.out, HB1.out⟩
        case measure => simp [intOf]; omega
    · obtain rfl : i = 18 := by omega
      have hfin : faceOf s = 0 := HF.out
      have HFI := Lib.hid hfin
      clear hfin
      go_wp2_with fail
      go_ret
      rw [HFI.out]
      exact ⟨rfl, HB.out⟩
end Go.Proofs.YtagjmkgbfbaekaaDoor
