/- The walk over tableaulaw03.SigNames; the document's example. -/
import Derived.Test.YtagjmkgbfbaekaaDoorSigFace
import Derived.Test.YtagjmkgbfbaekaaDoorPl
namespace Go.Proofs.YtagjmkgbfbaekaaDoor
open Go.RowKit
set_option maxRecDepth 100000

theorem str_eq {a b : ByteArray} (h : a = b) : (a.toList == b.toList) = true := by subst h; simp

set_option maxHeartbeats 1600000 in
theorem sawake_any (A : Nat → Addr) (S : List Nat) (h6 : 6 ∈ S) (w : World) (hE : Errs w w.heap.size S A) : Calls Tryd.prog 41 #[] w fun e w' => e = .returned (.bool true) ∧ Below w.heap.size w w' := by
  have HE := Lib.hid hE
  clear hE
  have q1 : (reqAt 8 3).1 = ⟨#[110]⟩ := by kernel_rfl
  have q2 : reqErr 8 3 = 0 := by kernel_rfl
  have q3 : (reqAt 8 3).2.1 = 3 := by kernel_rfl
  have q4 : nameOf (fc 8) = ⟨#[119, 108, 95, 115, 117, 114, 102, 97, 99, 101]⟩ := by kernel_rfl
  have Q := Lib.hid (And.intro q1 (And.intro q2 (And.intro q3 q4)))
  clear q1 q2 q3 q4
  go_enter Tryd.func41, Tryd.ntmps41
  go_wp2_with fail
  refine (request_any A S h6 8 3 w HE.out).mono ?_
  rintro e w1 ⟨rfl, hb1⟩
  rw [Q.out.1, Q.out.2.1, errV_zero]
  have HB1 := Lib.hid hb1
  clear hb1
  go_wp2_with fail
  refine (makes_any 8 3 w1).mono ?_
  rintro e w2 ⟨rfl, hb2⟩
  rw [Q.out.2.2.1]
  have HB2 := Lib.hid (HB1.out.trans (hb2.mono HB1.out.size))
  clear hb2
  go_wp2_with fail
  refine (name_any 8 w2).mono ?_
  rintro e w3 ⟨rfl, hb3⟩
  rw [Q.out.2.2.2]
  have HB3 := Lib.hid (HB2.out.trans (hb3.mono HB2.out.size))
  clear hb3
  go_wp2
  go_ret
  exact ⟨rfl, HB3.out⟩

def cntN (l : List UInt8) : Nat := (l.filter (· == 110)).length
/-- What SigNames says, of one interface and one number: by the kernel, all of them. -/
def okN (k o : Nat) : Bool :=
  (faceOf (nameOf k) == k) && !(nameOf k).data.toList.isEmpty && (faceOf (nameOf k ++ ⟨#[95]⟩) == 0) &&
  (let x := reqAt k o
   let c := cntN x.1.data.toList
   if reqOk k o then ((!x.2.2 || (x.1.data.toList.isEmpty && o == 0)) || (k == 6 && o == 1)) && (decide (0 < x.2.1) == (decide (c = 1) && decide (k ≠ 2))) && decide (c ≤ 1)
   else x.1.data.toList.isEmpty && x.2.1 == 0 && !x.2.2)
theorem okN_all : ((List.range 17).all fun k => (List.range 6).all fun o => okN (k + 1) o) = true := by kernel_rfl
theorem okN_at (k o : Nat) (h1 : 1 ≤ k) (h2 : k ≤ 17) (h3 : o < 6) : okN k o = true := by
  have h := List.all_eq_true.1 okN_all (k - 1) (List.mem_range.2 (by omega))
  have h' := List.all_eq_true.1 h o (List.mem_range.2 h3)
  have : k - 1 + 1 = k := by omega
  rwa [this] at h'

theorem fc_nat (k : Nat) (h : k < 18) : fc k = k := by unfold fc; rw [if_pos (by omega)]; omega
theorem okN_facts (k o : Nat) (h1 : 1 ≤ k) (h2 : k ≤ 17) (h3 : o < 6) : faceOf (nameOf k) = k ∧ nameOf k ≠ ⟨#[]⟩ ∧ faceOf (nameOf k ++ ⟨#[95]⟩) = 0 ∧
    (reqOk k o = false → (reqAt k o).1 = ⟨#[]⟩ ∧ (reqAt k o).2.1 = 0 ∧ (reqAt k o).2.2 = false) ∧
    (reqOk k o = true → ((reqAt k o).2.2 = false ∨ ((reqAt k o).1 = ⟨#[]⟩ ∧ o = 0) ∨ (k = 6 ∧ o = 1)) ∧ (0 < (reqAt k o).2.1 ↔ (cntN (reqAt k o).1.data.toList = 1 ∧ k ≠ 2)) ∧ cntN (reqAt k o).1.data.toList ≤ 1) := by
  have h := okN_at k o h1 h2 h3
  have emp : ∀ s : ByteArray, s.data.toList.isEmpty = true → s = ⟨#[]⟩ := fun s hs => Go.WideShapes.bytes_inj (by simpa using hs)
  simp only [okN, Bool.and_eq_true, beq_iff_eq, Bool.not_eq_true'] at h
  obtain ⟨⟨⟨a1, a2⟩, a3⟩, a4⟩ := h
  refine ⟨a1, ?_, a3, ?_, ?_⟩
  · intro e; rw [e] at a2; simp at a2
  · intro hq
    rw [hq] at a4
    simp only [Bool.false_eq_true, if_false, Bool.and_eq_true, beq_iff_eq, Bool.not_eq_true'] at a4
    exact ⟨emp _ a4.1.1, a4.1.2, a4.2⟩
  · intro hq
    rw [hq] at a4
    simp only [if_true, Bool.and_eq_true, Bool.or_eq_true, beq_iff_eq, Bool.not_eq_true', decide_eq_true_eq] at a4
    obtain ⟨⟨b1, b2⟩, b3⟩ := a4
    refine ⟨?_, ?_, b3⟩
    · rcases b1 with (b | b) | b
      · exact .inl b
      · exact .inr (.inl ⟨emp _ b.1, b.2⟩)
      · exact .inr (.inr b)
    · rw [Bool.eq_iff_iff] at b2
      simpa using b2
end Go.Proofs.YtagjmkgbfbaekaaDoor
