/- Both memories together, whatever stands between two calls of one statement. No condition but that the errors stand in memory. -/
import Derived.Test.YtagjmkgbfbaekaaDoorMRefC
import Derived.Test.YtagjmkgbfbaekaaDoorMBytes
import Derived.Test.YtagjmkgbfbaekaaDoorMemA
import Derived.Test.YtagjmkgbfbaekaaDoorKind
namespace Go.Proofs.YtagjmkgbfbaekaaDoor
open Go.RowKit
set_option maxRecDepth 100000

theorem has_put_all (L : List Ent) (k : Int) (y : Nat × List UInt8) (q : Int) : has (put L k y) q = if q = k then some y.2 else has L q := by
  by_cases h : q = k
  · subst h; rw [if_pos rfl, has_put]
  · rw [if_neg h, has_put_ne k q y h L]
theorem MemIs.other2 {w w' : World} {B g m x : Nat} {L : List Ent} (h : MemIs w B g m L) (hx : x ≠ g) (ho : Off x m L) (hg : w.grownBy w' (some x)) : MemIs w' B g m L := by
  obtain ⟨es, c, h1, h2⟩ := h.map
  exact ⟨h.box.grown hg (fun e => hx (by injection e with e; exact e.symm)), ⟨es, c, (hg.block m h.mlt (fun e => ho.1 (by injection e with e; exact e.symm))).trans h1, h2⟩, fun y hy => (h.row y hy).grown hg (fun e => ho.2 y hy (by injection e)), h.low, h.dis⟩

/-- Beyond the greatest places there is nothing. -/
theorem bAt_far (bs : List UInt8) (k : Int) (hl : bs.length ≤ 65536) (h : 9223372036854775805 ≤ k) : bAt bs k = 0 := by unfold bAt; rw [if_neg (by omega)]
set_option maxHeartbeats 1600000 in
theorem mword_big (B g m : Nat) (L : List Ent) (k a : Int) (w : World) (h : MemIs w B g m L) (hS : Small L) (ha1 : 9223372036854775804 < a) (ha2 : a ≤ 9223372036854775807) :
    Calls Tryd.prog 17 #[.pointer (some ⟨g, 0, none⟩), .int .i64 k, .int .i64 a] w fun e w' => e = .returned (.int .u32 (wordB (old L k) a)) ∧ w = w' := by
  have hlk := run_lookup_mem h k
  have gc0 := h.box.cell 0
  simp at gc0
  obtain ⟨A, n, hv, hn2⟩ : ∃ A n, lookV (look L k) = .slice A n n ∧ n ≤ 65536 := by
    cases hl : look L k with
    | none => exact ⟨none, 0, rfl, by omega⟩
    | some r =>
      obtain ⟨j, b, bs'⟩ := r
      exact ⟨_, _, rfl, hS _ (look_mem L k j b bs' hl).1⟩
  have hol : (old L k).length ≤ 65536 := by
    cases hl : look L k with
    | none => rw [old_none hl]; simp
    | some r =>
      obtain ⟨j, b, bs'⟩ := r
      rw [old_look hl]
      exact hS _ (look_mem L k j b bs' hl).1
  have hz : wordB (old L k) a = 0 := by
    show bAt (old L k) a + bAt (old L k) (a + 1) * 256 + bAt (old L k) (a + 2) * 65536 + bAt (old L k) (a + 3) * 16777216 = 0
    rw [bAt_far _ _ hol (by omega), bAt_far _ _ hol (by omega), bAt_far _ _ hol (by omega), bAt_far _ _ hol (by omega)]
    rfl
  rw [hz]
  rw [hv] at hlk
  clear hz hol hv hS h
  have hca : a = 9223372036854775805 ∨ a = 9223372036854775806 ∨ a = 9223372036854775807 := by omega
  rcases hca with rfl | rfl | rfl
  all_goals
    have d0 : decide ((9223372036854775805 : Int) < (n : Int)) = false := by simp; omega
    have d1 : decide ((9223372036854775806 : Int) < (n : Int)) = false := by simp; omega
    have d2 : decide ((9223372036854775807 : Int) < (n : Int)) = false := by simp; omega
    have e8 : wrap64 9223372036854775808 = -9223372036854775808 := by decide +kernel
    have e9 : wrap64 9223372036854775809 = -9223372036854775807 := by decide +kernel
    have e10 : wrap64 9223372036854775810 = -9223372036854775806 := by decide +kernel
    go_enter Tryd.func17, Tryd.ntmps17
    go_wp2_with fail
    refine wp_loop_rounds 5 ?_
    rw [rounds_succ]
    go_wp2_with fail
    rw [rounds_succ]
    go_wp2_with fail
    rw [rounds_succ]
    go_wp2_with fail
    rw [rounds_succ]
    go_wp2_with fail
    rw [rounds_succ]
    go_wp2_with fail
    go_ret
    exact ⟨rfl, rfl⟩

/-- Both: the memory has F, the document's has f. -/
def JM (w0 : World) (B g m h o : Nat) (oc : Array Value) (F f : Int → Option (List UInt8)) (w : World) : Prop :=
  ∃ L, MemIs w B g m L ∧ Small L ∧ (∀ k, has L k = F k) ∧ Off h m L ∧ Off o m L ∧ RM w (fun b => b ≠ g ∧ Off b m L) h f ∧ Blk w o 48 oc ∧ Below w0.heap.size w0 w
def setK (k n : Int) : Nat := if 1 ≤ k ∧ k ≤ 255 ∧ 0 ≤ n ∧ n ≤ 65536 then 0 else 1
def setF (F : Int → Option (List UInt8)) (k n : Int) : Int → Option (List UInt8) := if 1 ≤ k ∧ k ≤ 255 ∧ 0 ≤ n ∧ n ≤ 65536 then fun q => if q = k then some (setB ((F k).getD []) n.toNat) else F q else F
def writeK (r : Option (List UInt8)) (a : Int) (ys : List UInt8) : Nat := match r with | none => 9 | some bs => if a < 0 ∨ (bs.length : Int) - ys.length < a then 8 else 0
def writeF (F : Int → Option (List UInt8)) (k a : Int) (ys : List UInt8) : Int → Option (List UInt8) := match F k with | none => F | some bs => if a < 0 ∨ (bs.length : Int) - ys.length < a then F else fun q => if q = k then some (over bs a.toNat ys) else F q
theorem setK_le (k n : Int) : setK k n ≤ 16 := by unfold setK; split <;> omega
theorem writeK_le (r : Option (List UInt8)) (a : Int) (ys : List UInt8) : writeK r a ys ≤ 16 := by unfold writeK; split <;> (try split) <;> omega
def readR (r : Option (List UInt8)) (a n : Int) : List UInt8 := if readF r a n then readB (r.getD []) a.toNat n.toNat else []

section
variable {w0 w w' : World} {B g m h o : Nat} {oc : Array Value} {F F' f f' : Int → Option (List UInt8)}
theorem JM.below (hj : JM w0 B g m h o oc F f w) (hb : Below w.heap.size w w') : JM w0 B g m h o oc F f w' := by
  obtain ⟨L, h1, h2, h3, h4, h5, h6, h7, h8⟩ := hj
  exact ⟨L, h1.below hb, h2, h3, h4, h5, h6.keep (hb.block h h6.lt) (fun b hb' hP => ⟨hb.block b hb', hP⟩) hb.size, h7.below hb h7.lt, h8.trans (hb.mono h8.size)⟩
theorem JM.first {L' : List Ent} {L : List Ent} (h1 : MemIs w B g m L) (h4 : Off h m L) (h5 : Off o m L) (h6 : RM w (fun b => b ≠ g ∧ Off b m L) h f) (h7 : Blk w o 48 oc) (h8 : Below w0.heap.size w0 w) (hB : B = w0.heap.size)
    (k1 : MemIs w' B g m L') (k2 : Small L') (k3 : ∀ k, has L' k = F' k) (hs : MStep w w' m L L') : JM w0 B g m h o oc F' f w' := by
  have hB' : B ≤ w.heap.size := by rw [hB]; exact h8.size
  refine ⟨L', k1, k2, k3, (hs.keep h h6.lt h4).2, (hs.keep o h7.lt h5).2, h6.keep (hs.keep h h6.lt h4).1 (fun b hb hP => ⟨(hs.keep b hb hP.2).1, hP.1, (hs.keep b hb hP.2).2⟩) hs.size, hs.blk h7 h5, ?_⟩
  rw [← hB] at h8 ⊢
  exact hs.below h1 h8 hB'
theorem JM.second (hj : JM w0 B g m h o oc F f w) (hB : B = w0.heap.size) (hhg : h ≠ g) (hho : h ≠ o) (hBh : B ≤ h) (k1 : ∀ P, RM w P h f → RM w' (fun b => P b ∨ w.heap.size ≤ b) h f') (hg : w.grownBy w' (some h)) : JM w0 B g m h o oc F f' w' := by
  obtain ⟨L, h1, h2, h3, h4, h5, h6, h7, h8⟩ := hj
  have h6' := k1 _ h6
  refine ⟨L, h1.other2 hhg h4 hg, h2, h3, h4, h5, h6'.keep rfl (fun b _ hP => ⟨rfl, ?_⟩) (Nat.le_refl _), h7.grown hg (fun e => hho (by injection e with e; exact e.symm)), below_of_only h8 hg h8.size (by omega)⟩
  rcases hP with hP | hP
  · exact hP
  · exact ⟨by have := h1.box.lt; omega, by have := h1.mlt; omega, fun e he => by have := Blk.lt (h1.row e he); omega⟩
theorem JM.cell (hj : JM w0 B g m h o oc F f w) (i : Nat) : w.cell? ⟨o, i, none⟩ = oc[i]? := by
  obtain ⟨L, h1, h2, h3, h4, h5, h6, h7, h8⟩ := hj
  exact h7.cell i
theorem JM.bel (hj : JM w0 B g m h o oc F f w) : Below w0.heap.size w0 w := by
  obtain ⟨L, h1, h2, h3, h4, h5, h6, h7, h8⟩ := hj
  exact h8
theorem JM.drewN (hj : JM w0 B g m h o oc F f w) (n : Nat) : JM w0 B g m h o oc F f (w.drewN n) := hj.below (below_drewN (Below.refl _ _) n)
theorem JM.hid_drew (hj : Hid (JM w0 B g m h o oc F f w)) : Hid (JM w0 B g m h o oc F f w.drew) := hj.out.drewN 1
end
section
variable {w0 w : World} {B g m h o : Nat} {oc : Array Value} {F f : Int → Option (List UInt8)}
theorem j_mset {A : Nat → Addr} (k n : Int) (hj : Hid (JM w0 B g m h o oc F f w)) (hE : Hid (Errs w0 w0.heap.size allErrs A)) (hB : B = w0.heap.size) :
    Calls Tryd.prog 15 #[.pointer (some ⟨g, 0, none⟩), .int .i64 k, .int .i64 n] w fun e w' => e = .returned (errV A (setK k n)) ∧ Hid (JM w0 B g m h o oc (setF F k n) f w') ∧ (∀ i, w'.cell? ⟨o, i, none⟩ = oc[i]?) := by
  obtain ⟨L, h1, h2, h3, h4, h5, h6, h7, h8⟩ := hj.out
  by_cases hk : 1 ≤ k ∧ k ≤ 255 ∧ 0 ≤ n ∧ n ≤ 65536
  · refine (mset_ok B g m L k n w h1 h2 hk.1 hk.2.1 hk.2.2.1 hk.2.2.2 (by rw [hB]; exact h8.size)).mono ?_
    rintro e w' ⟨rfl, hm, hs⟩
    have hJ : JM w0 B g m h o oc (setF F k n) f w' := JM.first h1 h4 h5 h6 h7 h8 hB hm (small_put h2 _ _ _ (by rw [setB_length]; omega)) (fun q => by
      unfold setF
      rw [has_put_all, if_pos hk]
      simp only [old, h3]) hs
    exact ⟨by unfold setK; rw [if_pos hk]; rfl, hJ, hJ.cell⟩
  · refine (mset_bad A allErrs (mem_all 1 (by omega) (by omega)) k n _ w (hE.out.to h8 h8.size) hk).mono ?_
    rintro e w' ⟨rfl, rfl⟩
    have hJ : JM w0 B g m h o oc (setF F k n) f w := by unfold setF; rw [if_neg hk]; exact hj.out
    exact ⟨by unfold setK; rw [if_neg hk], hJ, hJ.cell⟩
theorem j_rset (k n : Int) (hj : Hid (JM w0 B g m h o oc F f w)) (hB : B = w0.heap.size) (hhg : h ≠ g) (hho : h ≠ o) (hBh : B ≤ h) :
    Calls Tryd.prog 24 #[.pointer (some ⟨h, 0, none⟩), .int .i64 k, .int .i64 n] w fun e w' => e = .returned (.int .i64 (setK k n)) ∧ Hid (JM w0 B g m h o oc F (setF f k n) w') ∧ (∀ i, w'.cell? ⟨o, i, none⟩ = oc[i]?) := by
  by_cases hk : 1 ≤ k ∧ k ≤ 255 ∧ 0 ≤ n ∧ n ≤ 65536
  · have hc : ∀ P, RM w P h f → _ := fun P hR => rset_ok P h f k n w hR hk.1 hk.2.1 hk.2.2.1 hk.2.2.2
    obtain ⟨L, h1, h2, h3, h4, h5, h6, h7, h8⟩ := hj.out
    refine (rset_ok _ h f k n w h6 hk.1 hk.2.1 hk.2.2.1 hk.2.2.2).mono ?_
    rintro e w' ⟨rfl, hm, hg⟩
    have hJ : JM w0 B g m h o oc F (setF f k n) w' := by
      refine ⟨L, h1.other2 hhg h4 hg, h2, h3, h4, h5, ?_, h7.grown hg (fun e => hho (by injection e with e; exact e.symm)), below_of_only h8 hg h8.size (by omega)⟩
      have e : setF f k n = fun q => if q = k then some (setB ((f k).getD []) n.toNat) else f q := by unfold setF; rw [if_pos hk]
      rw [e]
      refine hm.keep rfl (fun b _ hP => ⟨rfl, ?_⟩) (Nat.le_refl _)
      rcases hP with hP | hP
      · exact hP
      · exact ⟨by have := h1.box.lt; omega, by have := h1.mlt; omega, fun e he => by have := Blk.lt (h1.row e he); omega⟩
    exact ⟨by unfold setK; rw [if_pos hk]; rfl, hJ, hJ.cell⟩
  · refine (rset_bad _ k n w hk).mono ?_
    rintro e w' ⟨rfl, rfl⟩
    have hJ : JM w0 B g m h o oc F (setF f k n) w := by unfold setF; rw [if_neg hk]; exact hj.out
    exact ⟨by unfold setK; rw [if_neg hk]; rfl, hJ, hJ.cell⟩
theorem j_mkind {A : Nat → Addr} (hj : Hid (JM w0 B g m h o oc F f w)) (hE : Hid (Errs w0 w0.heap.size allErrs A)) (k : Nat) (hk : k ≤ 16) :
    Calls Tryd.prog 23 #[errV A k] w fun e w' => e = .returned (.int .i64 k) ∧ Hid (JM w0 B g m h o oc F f w') ∧ (∀ i, w'.cell? ⟨o, i, none⟩ = oc[i]?) := by
  have hb := hj.out.bel
  refine (kind_any A k hk w (hE.out.to hb hb.size)).mono ?_
  rintro e w' ⟨rfl, hb'⟩
  have hJ := hj.out.below hb'
  exact ⟨rfl, hJ, hJ.cell⟩
theorem j_mbytes {ov : Value} {ys : List UInt8} (hj : Hid (JM w0 B g m h o oc F f w)) (hs : Hid (Sl w0 w0.heap.size ov (bv ys))) (hy : ys.length ≤ 2000) :
    Calls Tryd.prog 21 #[ov] w fun e w' => ∃ v, e = .returned v ∧ Hid (Sl w' w'.heap.size v (bv ys)) ∧ Hid (JM w0 B g m h o oc F f w') ∧ (∀ i, w'.cell? ⟨o, i, none⟩ = oc[i]?) := by
  have hb := hj.out.bel
  refine (mbytes_any ov ys w ((hs.out.below hb).more hb.size) (by omega)).mono ?_
  rintro e w' ⟨v, rfl, hown, hb'⟩
  have hJ := hj.out.below hb'
  rw [← bv_length] at hown
  exact ⟨v, rfl, Sl.of_own hown, hJ, hJ.cell⟩
theorem j_mwrite {A : Nat → Addr} (k a : Int) {v : Value} {ys : List UInt8} (hj : Hid (JM w0 B g m h o oc F f w)) (hv : Hid (Sl w w.heap.size v (bv ys))) (hy : ys.length ≤ 2000) (hE : Hid (Errs w0 w0.heap.size allErrs A)) (hB : B = w0.heap.size) :
    Calls Tryd.prog 16 #[.pointer (some ⟨g, 0, none⟩), .int .i64 k, .int .i64 a, v] w fun e w' => e = .returned (errV A (writeK (F k) a ys)) ∧ Hid (JM w0 B g m h o oc (writeF F k a ys) f w') ∧ (∀ i, w'.cell? ⟨o, i, none⟩ = oc[i]?) := by
  obtain ⟨L, h1, h2, h3, h4, h5, h6, h7, h8⟩ := hj.out
  have hk3 := h3 k
  cases hl : look L k with
  | none =>
    have hF : F k = none := by rw [← hk3]; simp [has, hl]
    refine (mwrite_none A allErrs (mem_all 9 (by omega) (by omega)) B g m L k a v w h1 (hE.out.to h8 h8.size) hl).mono ?_
    rintro e w' ⟨rfl, rfl⟩
    have hJ : JM w0 B g m h o oc (writeF F k a ys) f w := by unfold writeF; rw [hF]; exact hj.out
    exact ⟨by unfold writeK; rw [hF], hJ, hJ.cell⟩
  | some r =>
    obtain ⟨j, b, bs⟩ := r
    have hF : F k = some bs := by rw [← hk3]; simp [has, hl]
    by_cases hbad : a < 0 ∨ (bs.length : Int) - ys.length < a
    · refine (mwrite_far A allErrs (mem_all 8 (by omega) (by omega)) B g m L k a v ys w h1 h2 (hE.out.to h8 h8.size) hv.out (by omega) hl hbad).mono ?_
      rintro e w' ⟨rfl, rfl⟩
      have hJ : JM w0 B g m h o oc (writeF F k a ys) f w := by unfold writeF; simp only [hF]; rw [if_pos hbad]; exact hj.out
      exact ⟨by unfold writeK; simp only [hF]; rw [if_pos hbad], hJ, hJ.cell⟩
    · obtain ⟨q, rfl⟩ : ∃ q : Nat, a = q := Int.eq_ofNat_of_zero_le (by omega)
      refine (mwrite_ok B g m L k q v ys w h1 h2 hv.out hl (by omega)).mono ?_
      rintro e w' ⟨rfl, hm, hs⟩
      have hJ : JM w0 B g m h o oc (writeF F k q ys) f w' := JM.first h1 h4 h5 h6 h7 h8 hB hm (small_put h2 _ _ _ (by rw [over_length _ _ _ (by omega)]; exact h2 _ (look_mem L k j b bs hl).1)) (fun z => by
        unfold writeF
        simp only [hF]
        rw [has_put_all, if_neg hbad]
        simp only [h3, Int.toNat_natCast]) hs
      exact ⟨by unfold writeK; simp only [hF]; rw [if_neg hbad]; rfl, hJ, hJ.cell⟩
theorem j_rwrite (k a : Int) {ov : Value} {ys : List UInt8} (hj : Hid (JM w0 B g m h o oc F f w)) (hs : Hid (Sl w0 w0.heap.size ov (bv ys))) (hB : B = w0.heap.size) (hhg : h ≠ g) (hho : h ≠ o) (hBh : B ≤ h) :
    Calls Tryd.prog 26 #[.pointer (some ⟨h, 0, none⟩), .int .i64 k, .int .i64 a, ov] w fun e w' => e = .returned (.int .i64 (writeK (f k) a ys)) ∧ Hid (JM w0 B g m h o oc F (writeF f k a ys) w') ∧ (∀ i, w'.cell? ⟨o, i, none⟩ = oc[i]?) := by
  obtain ⟨L, h1, h2, h3, h4, h5, h6, h7, h8⟩ := hj.out
  have hv : Sl w w.heap.size ov (bv ys) := (hs.out.below h8).more h8.size
  cases hf : f k with
  | none =>
    refine (rwrite_none _ h f k a ov w h6 hf).mono ?_
    rintro e w' ⟨rfl, rfl⟩
    have hJ : JM w0 B g m h o oc F (writeF f k a ys) w := by unfold writeF; rw [hf]; exact hj.out
    exact ⟨rfl, hJ, hJ.cell⟩
  | some bs =>
    by_cases hbad : a < 0 ∨ (bs.length : Int) - ys.length < a
    · refine (rwrite_far _ h f k a ov ys w h6 hf hv hbad).mono ?_
      rintro e w' ⟨rfl, rfl⟩
      have hJ : JM w0 B g m h o oc F (writeF f k a ys) w := by unfold writeF; simp only [hf]; rw [if_pos hbad]; exact hj.out
      exact ⟨by unfold writeK; simp only; rw [if_pos hbad]; rfl, hJ, hJ.cell⟩
    · obtain ⟨q, rfl⟩ : ∃ q : Nat, a = q := Int.eq_ofNat_of_zero_le (by omega)
      refine (rwrite_ok _ h f k q ov ys w h6 hf hv (by omega)).mono ?_
      rintro e w' ⟨rfl, hm, hg⟩
      have hJ : JM w0 B g m h o oc F (writeF f k q ys) w' := by
        refine ⟨L, h1.other2 hhg h4 hg, h2, h3, h4, h5, ?_, h7.grown hg (fun e => hho (by injection e with e; exact e.symm)), below_of_only h8 hg h8.size (by omega)⟩
        have e : writeF f k q ys = fun z => if z = k then some (over bs q ys) else f z := by unfold writeF; simp only [hf]; rw [if_neg hbad, Int.toNat_natCast]
        rw [e]
        refine hm.keep rfl (fun b _ hP => ⟨rfl, ?_⟩) (Nat.le_refl _)
        rcases hP with hP | hP
        · exact hP
        · exact ⟨by have := h1.box.lt; omega, by have := h1.mlt; omega, fun e he => by have := Blk.lt (h1.row e he); omega⟩
      exact ⟨by unfold writeK; simp only; rw [if_neg hbad]; rfl, hJ, hJ.cell⟩
theorem j_mread (k a n : Int) (ha : -9223372036854775808 ≤ n ∧ n ≤ 9223372036854775807) (hj : Hid (JM w0 B g m h o oc F f w)) :
    Calls Tryd.prog 22 #[.pointer (some ⟨g, 0, none⟩), .int .i64 k, .int .i64 a, .int .i64 n] w fun e w' => ∃ v, e = .returned (.tuple #[v, .bool (readF (F k) a n)]) ∧ Hid (Sl w' w'.heap.size v (bv (readR (F k) a n))) ∧ Hid (JM w0 B g m h o oc F f w') ∧ Below w.heap.size w w' := by
  obtain ⟨L, h1, h2, h3, h4, h5, h6, h7, h8⟩ := hj.out
  have hk3 := h3 k
  have hro : readOk L k a n = readF (F k) a n := by unfold readOk readF; rw [hk3]; cases F k <;> rfl
  cases hb : readF (F k) a n with
  | false =>
    refine (mread_no B g m L k a n w h1 h2 ha (by rw [hro, hb])).mono ?_
    rintro e w' ⟨rfl, rfl⟩
    exact ⟨_, rfl, by unfold readR; rw [hb]; exact Sl.nil_ _ _, hj, Below.refl _ _⟩
  | true =>
    cases hl : look L k with
    | none => rw [← hk3] at hb; simp [has, hl, readF] at hb
    | some r =>
      obtain ⟨j, b, bs⟩ := r
      have hF : F k = some bs := by rw [← hk3]; simp [has, hl]
      have hb' := hb
      rw [hF] at hb'
      simp only [readF, decide_eq_true_eq] at hb'
      obtain ⟨q, rfl⟩ : ∃ q : Nat, a = q := Int.eq_ofNat_of_zero_le hb'.2.1
      obtain ⟨z, rfl⟩ : ∃ q : Nat, n = q := Int.eq_ofNat_of_zero_le hb'.1
      refine (mread_ok B g m L k q z w h1 h2 hl (by omega)).mono ?_
      rintro e w' ⟨rfl, hblk, hbl⟩
      have hbs : bs.length ≤ 65536 := h2 _ (look_mem L k j b bs hl).1
      have hlen : (readB bs q z).length = z := by unfold readB; rw [List.length_take, List.length_drop]; omega
      refine ⟨_, rfl, ?_, hj.out.below hbl, hbl⟩
      unfold readR
      rw [hb, if_pos rfl, hF, Option.getD_some, Int.toNat_natCast, Int.toNat_natCast]
      show SlN _ _ _ _ _ _
      rw [bv_length, hlen]
      refine ⟨by rw [bv_length, hlen]; omega, _, _, rfl, Nat.le_refl _, by unfold maxLen; omega, (fun e => by cases e), fun _ => ⟨_, 0, rfl, hblk.lt, fun i u hu => ?_⟩⟩
      rw [Nat.zero_add, hblk.cell]
      simpa using hu
theorem j_rread (k a n : Int) (ha : -9223372036854775808 ≤ n ∧ n ≤ 9223372036854775807) (hj : Hid (JM w0 B g m h o oc F f w)) :
    Calls Tryd.prog 25 #[.pointer (some ⟨h, 0, none⟩), .int .i64 k, .int .i64 a, .int .i64 n] w fun e w' => ∃ v, e = .returned (.tuple #[v, .bool (readF (f k) a n)]) ∧ Hid (Sl w' w'.heap.size v (bv (readR (f k) a n))) ∧ Hid (JM w0 B g m h o oc F f w') ∧ Below w.heap.size w w' := by
  obtain ⟨L, h1, h2, h3, h4, h5, h6, h7, h8⟩ := hj.out
  cases hb : readF (f k) a n with
  | false =>
    refine (rread_no _ h f k a n w h6 ha hb).mono ?_
    rintro e w' ⟨rfl, rfl⟩
    exact ⟨_, rfl, by unfold readR; rw [hb]; exact Sl.nil_ _ _, hj, Below.refl _ _⟩
  | true =>
    cases hf : f k with
    | none => rw [hf] at hb; simp [readF] at hb
    | some bs =>
      have hb' := hb
      rw [hf] at hb'
      simp only [readF, decide_eq_true_eq] at hb'
      obtain ⟨q, rfl⟩ : ∃ q : Nat, a = q := Int.eq_ofNat_of_zero_le hb'.2.1
      obtain ⟨z, rfl⟩ : ∃ q : Nat, n = q := Int.eq_ofNat_of_zero_le hb'.1
      refine (rread_ok _ h f k q z w h6 hf (by omega)).mono ?_
      rintro e w' ⟨v, rfl, hsl, hbl⟩
      refine ⟨_, rfl, ?_, hj.out.below hbl, hbl⟩
      unfold readR
      rw [← hf, hb, if_pos rfl, hf, Option.getD_some, Int.toNat_natCast, Int.toNat_natCast]
      exact hsl
theorem j_msize (k : Int) (hj : Hid (JM w0 B g m h o oc F f w)) : Calls Tryd.prog 18 #[.pointer (some ⟨g, 0, none⟩), .int .i64 k] w fun e w' => e = .returned (.int .i64 (sizeF (F k))) ∧ w = w' := by
  obtain ⟨L, h1, h2, h3, h4, h5, h6, h7, h8⟩ := hj.out
  have := msize_any B g m L k w h1
  rw [show sizeM L k = sizeF (F k) by unfold sizeM sizeF; rw [h3 k]; cases F k <;> rfl] at this
  exact this
theorem j_rsize (k : Int) (hj : Hid (JM w0 B g m h o oc F f w)) : Calls Tryd.prog 27 #[.pointer (some ⟨h, 0, none⟩), .int .i64 k] w fun e w' => e = .returned (.int .i64 (sizeF (f k))) ∧ w = w' := by
  obtain ⟨L, h1, h2, h3, h4, h5, h6, h7, h8⟩ := hj.out
  exact rsize_any _ h f k w h6
theorem j_mword (k a : Int) (ha : -9223372036854775808 ≤ a ∧ a ≤ 9223372036854775807) (hj : Hid (JM w0 B g m h o oc F f w)) : Calls Tryd.prog 17 #[.pointer (some ⟨g, 0, none⟩), .int .i64 k, .int .i64 a] w fun e w' => e = .returned (.int .u32 (wordB ((F k).getD []) a)) ∧ w = w' := by
  obtain ⟨L, h1, h2, h3, h4, h5, h6, h7, h8⟩ := hj.out
  rw [← h3 k]
  by_cases hs : a ≤ 9223372036854775804
  · exact mword_any B g m L k a w h1 h2 ha.1 hs
  · exact mword_big B g m L k a w h1 h2 (by omega) ha.2
theorem j_rword (k a : Int) (ha : -9223372036854775808 ≤ a ∧ a ≤ 9223372036854775807) (hj : Hid (JM w0 B g m h o oc F f w)) : Calls Tryd.prog 28 #[.pointer (some ⟨h, 0, none⟩), .int .i64 k, .int .i64 a] w fun e w' => e = .returned (.int .u32 (wordB ((f k).getD []) a)) ∧ w = w' := by
  obtain ⟨L, h1, h2, h3, h4, h5, h6, h7, h8⟩ := hj.out
  exact rword_any _ h f k a w h6 ha.1 ha.2
end
end Go.Proofs.YtagjmkgbfbaekaaDoor
