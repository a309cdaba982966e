/- Plain laws for ReaderMany: messages put one behind the other. No condition. -/
import Derived.Test.YtihbgkighckiiaaDoorCutsL
namespace Go.Proofs.YtihbgkighckiiaaDoor
open Go.RowKit
set_option maxRecDepth 100000

def MOk (x : RawD) : Prop := 0 ≤ x.1 ∧ x.1 < 4294967296 ∧ 0 ≤ x.2.1 ∧ x.2.1 < 65536 ∧ x.2.2.size ≤ 400 ∧ x.2.2.size % 4 = 0
def mFit (x : RawD) : Bool := decide (x.2.2.size ≤ 400 ∧ x.2.2.size % 4 = 0)
def mCut (x : RawD) : RawD := (x.1 % 4294967296, x.2.1 % 65536, x.2.2)
def mOne (x : RawD) : List RawD := if mFit x then [mCut x] else []
def mB (x : RawD) : List UInt8 := le4 x.1 ++ le4 ((x.2.2.size + 8 : Nat) * 65536 + x.2.1) ++ x.2.2.data.toList
def wantsL (l : List RawD) : List RawD := l.flatMap mOne
def manyB (l : List RawD) : List UInt8 := l.flatMap mB
theorem str_length (s : ByteArray) : s.data.toList.length = s.size := by rw [Array.length_toList]; rfl
theorem wantsL_ok (l : List RawD) : ∀ x ∈ wantsL l, MOk x := by
  intro x hx
  simp only [wantsL, List.mem_flatMap] at hx
  obtain ⟨y, _, hy⟩ := hx
  unfold mOne at hy
  split at hy
  · rename_i hf
    unfold mFit at hf
    simp only [decide_eq_true_eq] at hf
    simp only [List.mem_singleton] at hy
    subst hy
    unfold mCut MOk
    simp only
    omega
  · simp at hy
theorem mB_length (x : RawD) : (mB x).length = 8 + x.2.2.size := by
  unfold mB
  simp only [List.length_append, le4_length, str_length]
theorem manyB_length (l : List RawD) (h : ∀ x ∈ l, MOk x) : (manyB l).length ≤ l.length * 408 := by
  induction l with
  | nil => simp [manyB]
  | cons x l ih =>
    have := ih (fun y hy => h y (List.mem_cons_of_mem _ hy))
    obtain ⟨_, _, _, _, h5, _⟩ := h x (List.mem_cons_self ..)
    have hb := mB_length x
    simp only [manyB, List.flatMap_cons, List.length_append, List.length_cons] at *
    omega
theorem wantsL_take (l : List RawD) (i : Nat) (h : i < l.length) : wantsL (l.take (i + 1)) = wantsL (l.take i) ++ mOne l[i] := by
  rw [List.take_succ_eq_append_getElem h, wantsL, List.flatMap_append]; simp [wantsL]
theorem wantsL_length (l : List RawD) (i : Nat) : (wantsL (l.take i)).length ≤ i := by
  have : ∀ (m : List RawD), (wantsL m).length ≤ m.length := by
    intro m
    induction m with
    | nil => simp [wantsL]
    | cons x m ih =>
      simp only [wantsL, List.flatMap_cons, List.length_append, List.length_cons] at *
      have : (mOne x).length ≤ 1 := by unfold mOne; split <;> simp
      omega
  have h := this (l.take i)
  rw [List.length_take] at h
  omega
theorem manyB_app (l m : List RawD) : manyB (l ++ m) = manyB l ++ manyB m := by simp [manyB]
theorem feedL_many : ∀ (l : List RawD), (∀ x ∈ l, MOk x) → feedL (manyB l) = (l, [], 0)
  | [], _ => feedL_short (by decide +kernel)
  | x :: l, h => by
    obtain ⟨h1, h2, h3, h4, h5, h6⟩ := h x (List.mem_cons_self ..)
    have ih := feedL_many l (fun y hy => h y (List.mem_cons_of_mem _ hy))
    have e := feedL_one x.1 x.2.1 x.2.2.data.toList (manyB l) h1 h2 h3 h4 (by rw [str_length]; omega) (by rw [str_length]; omega)
    rw [str_length, strB_of, ih] at e
    have e2 : manyB (x :: l) = le4 x.1 ++ le4 ((x.2.2.size + 8 : Nat) * 65536 + x.2.1) ++ x.2.2.data.toList ++ manyB l := by simp [manyB, mB]
    rw [e2, e]
end Go.Proofs.YtihbgkighckiiaaDoor
