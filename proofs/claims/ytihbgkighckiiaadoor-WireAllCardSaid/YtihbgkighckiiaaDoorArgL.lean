/- Plain laws: what the arguments of a message are, got from its bytes. No condition. -/
import Derived.Test.YtihbgkighckiiaaDoorCheck
import Derived.Test.YtihbgkighckiiaaDoorEnc
import Derived.Test.YtihbgkighckiiaaDoorRef3
namespace Go.Proofs.YtihbgkighckiiaaDoor
open Go.RowKit
set_option maxRecDepth 100000

def signed (v : Int) : Int := if v < 2147483648 then v else v - 4294967296
noncomputable def argE (k : Int) (bs : List UInt8) (a : Nat) : Nat :=
  if k = 105 ∨ k = 102 ∨ k = 117 ∨ k = 111 then getE bs a
  else if k = 110 then (if getE bs a ≠ 0 then getE bs a else if leV bs a = 0 then 3 else 0)
  else if k = 115 then (if textE bs a ≠ 0 then textE bs a else if 200 < (gotS bs a).dropLast.length then 3 else 0)
  else if k = 97 then (if gotE bs a 0 ≠ 0 then gotE bs a 0 else if 200 < (gotS bs a).length then 3 else 0)
  else 1
def argN (k : Int) (bs : List UInt8) (a : Nat) : Int := if k = 105 ∨ k = 102 then signed (leV bs a) else if k = 117 ∨ k = 111 ∨ k = 110 then leV bs a else 0
def argS (k : Int) (bs : List UInt8) (a : Nat) : ByteArray := if k = 115 then strB (gotS bs a).dropLast else if k = 97 then strB (gotS bs a) else ⟨#[]⟩
def argX (k : Int) (bs : List UInt8) (a : Nat) : Nat := if k = 115 ∨ k = 97 then gotN bs a else a + 4
theorem gotE_le (bs : List UInt8) (a : Int) (l : Nat) : gotE bs a l ≤ 4 := by
  unfold gotE
  have : getE bs a ≤ 2 := by unfold getE; split; omega; split <;> omega
  repeat' split
  all_goals omega
theorem getE_le2 (bs : List UInt8) (a : Int) : getE bs a ≤ 2 := by unfold getE; split; omega; split <;> omega
theorem textE_le (bs : List UInt8) (a : Int) : textE bs a ≤ 4 := by
  unfold textE
  have := gotE_le bs a 1
  repeat' split
  all_goals omega
theorem argE_le (k : Int) (bs : List UInt8) (a : Nat) : argE k bs a ≤ 4 := by
  unfold argE
  have h1 := getE_le2 bs a
  have h2 := textE_le bs a
  have h3 := gotE_le bs a 0
  repeat' split
  all_goals omega
/-- All arguments, one behind the other: what is wrong; they; the place behind. -/
noncomputable def getArgs (bs : List UInt8) : List UInt8 → Nat → Nat × List ArgD × Nat
  | [], a => (0, [], a)
  | c :: cs, a => if argE c.toNat bs a ≠ 0 then (argE c.toNat bs a, [], a) else
    ((getArgs bs cs (argX c.toNat bs a)).1, ((c.toNat : Int), argN c.toNat bs a, argS c.toNat bs a) :: (getArgs bs cs (argX c.toNat bs a)).2.1, (getArgs bs cs (argX c.toNat bs a)).2.2)
noncomputable def mgetE (o p : Int) (bs : List UInt8) (sig : ByteArray) : Nat :=
  if (getArgs bs sig.data.toList 0).1 ≠ 0 then (getArgs bs sig.data.toList 0).1
  else if (getArgs bs sig.data.toList 0).2.2 < bs.length then 3
  else checkE o p (getArgs bs sig.data.toList 0).2.1 sig
noncomputable def mgetL (o p : Int) (bs : List UInt8) (sig : ByteArray) : List ArgD := if mgetE o p bs sig = 0 then (getArgs bs sig.data.toList 0).2.1 else []
theorem getArgs_app (bs : List UInt8) : ∀ (s t : List UInt8) (a : Nat), getArgs bs (s ++ t) a = if (getArgs bs s a).1 ≠ 0 then ((getArgs bs s a).1, (getArgs bs s a).2) else
    ((getArgs bs t (getArgs bs s a).2.2).1, (getArgs bs s a).2.1 ++ (getArgs bs t (getArgs bs s a).2.2).2.1, (getArgs bs t (getArgs bs s a).2.2).2.2)
  | [], t, a => by simp [getArgs]
  | c :: s, t, a => by
    rw [List.cons_append, getArgs, getArgs]
    by_cases h : argE c.toNat bs a ≠ 0
    · rw [if_pos h, if_pos h]; simp [h]
    · rw [if_neg h, if_neg h, getArgs_app bs s t]
      by_cases h2 : (getArgs bs s (argX c.toNat bs a)).1 = 0
      · simp [h2]
      · simp [h2]
theorem getArgs_err_le (bs : List UInt8) : ∀ (s : List UInt8) (a : Nat), (getArgs bs s a).1 ≤ 4
  | [], a => by simp [getArgs]
  | c :: s, a => by
    rw [getArgs]
    split
    · exact argE_le _ _ _
    · exact getArgs_err_le bs s _
theorem argX_le (k : Int) (bs : List UInt8) (a : Nat) (h : argE k bs a = 0) : a ≤ argX k bs a ∧ argX k bs a ≤ bs.length := by
  have hget : getE bs a = 0 → a + 4 ≤ bs.length := fun h => by
    unfold getE at h
    split at h
    · omega
    · split at h <;> omega
  have hgot : ∀ l, gotE bs a l = 0 → a ≤ gotN bs a ∧ gotN bs a ≤ bs.length := fun l h => by
    have := (gotS_length bs a l h).2.2.2
    refine ⟨?_, this⟩
    unfold gotN
    rw [Int.toNat_natCast]; omega
  unfold argE at h
  unfold argX
  split at h
  · rename_i hk
    rw [if_neg (by omega)]
    have := hget h; omega
  · split at h
    · rename_i hk
      rw [if_neg (by omega)]
      split at h
      · omega
      · have := hget (by omega); omega
    · split at h
      · rename_i hk
        rw [if_pos (.inl hk)]
        split at h
        · omega
        · rename_i ht
          refine hgot 1 ?_
          unfold textE at ht
          split at ht
          · omega
          · omega
      · split at h
        · rename_i hk
          rw [if_pos (.inr hk)]
          split at h
          · omega
          · exact hgot 0 (by omega)
        · omega
theorem getArgs_le (bs : List UInt8) : ∀ (s : List UInt8) (a : Nat), a ≤ bs.length → a ≤ (getArgs bs s a).2.2 ∧ (getArgs bs s a).2.2 ≤ bs.length
  | [], a, h => by simp [getArgs, h]
  | c :: s, a, h => by
    rw [getArgs]
    split
    · exact ⟨Nat.le_refl _, h⟩
    · rename_i he
      obtain ⟨h1, h2⟩ := argX_le c.toNat bs a (by omega)
      obtain ⟨h3, h4⟩ := getArgs_le bs s _ h2
      exact ⟨by simp only; omega, h4⟩
theorem getArgs_length (bs : List UInt8) : ∀ (s : List UInt8) (a : Nat), (getArgs bs s a).1 = 0 → (getArgs bs s a).2.1.length = s.length
  | [], a, _ => by simp [getArgs]
  | c :: s, a, h => by
    rw [getArgs] at h ⊢
    split at h
    · rename_i hx; exact absurd h hx
    · rename_i hx
      rw [if_neg hx]
      simp only [List.length_cons]
      rw [getArgs_length bs s _ h]
theorem argS_size (k : Int) (bs : List UInt8) (a : Nat) (h : argE k bs a = 0) : (argS k bs a).size ≤ 200 := by
  unfold argE at h
  unfold argS
  split at h
  · rename_i hk
    rw [if_neg (by omega), if_neg (by omega)]
    show (0 : Nat) ≤ 200; omega
  · split at h
    · rename_i hk
      rw [if_neg (by omega), if_neg (by omega)]
      show (0 : Nat) ≤ 200; omega
    · split at h
      · rename_i hk
        rw [if_pos hk, strB_size]
        split at h
        · omega
        · split at h <;> omega
      · rename_i hk2
        split at h
        · rename_i hk
          rw [if_neg hk2, if_pos hk, strB_size]
          split at h
          · omega
          · split at h <;> omega
        · omega
theorem getArgs_fit (bs : List UInt8) : ∀ (s : List UInt8) (a : Nat), Fit (getArgs bs s a).2.1
  | [], a => by intro x hx; simp [getArgs] at hx
  | c :: s, a => by
    rw [getArgs]
    split
    · intro x hx; simp at hx
    · rename_i he
      intro x hx
      simp only [List.mem_cons] at hx
      rcases hx with rfl | hx
      · have := argS_size c.toNat bs a (by omega)
        simp only; omega
      · exact getArgs_fit bs s _ x hx
end Go.Proofs.YtihbgkighckiiaaDoor
