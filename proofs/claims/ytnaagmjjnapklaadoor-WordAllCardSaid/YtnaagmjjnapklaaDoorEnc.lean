/- Plain laws: what is put is got (numbers, texts, lists of bytes). No condition. -/
import Derived.Test.YtnaagmjjnapklaaDoorWordT
namespace Go.Proofs.YtnaagmjjnapklaaDoor

theorem byteAt_app (pre l : List UInt8) (k : Nat) : byteAt (pre ++ l) (pre.length + k) = byteAt l k := by
  unfold byteAt
  rw [List.getElem?_append_right (by omega), Nat.add_sub_cancel_left]
theorem leV_app (pre l : List UInt8) (k : Nat) : leV (pre ++ l) (pre.length + k) = leV l k := by
  unfold leV
  rw [byteAt_app, Nat.add_assoc, byteAt_app, Nat.add_assoc, byteAt_app, Nat.add_assoc, byteAt_app]
theorem leV_pre (pre l : List UInt8) (k : Nat) (h : k + 4 ≤ pre.length) : leV (pre ++ l) k = leV pre k := by
  have e : ∀ j, j < pre.length → byteAt (pre ++ l) j = byteAt pre j := fun j hj => by
    unfold byteAt; rw [List.getElem?_append_left hj]
  unfold leV
  rw [e k (by omega), e (k + 1) (by omega), e (k + 2) (by omega), e (k + 3) (by omega)]
theorem leV_le4 (v : Int) (rest : List UInt8) (h0 : 0 ≤ v) (h1 : v < 4294967296) : leV (le4 v ++ rest) 0 = v := by
  have e0 : byteAt (le4 v ++ rest) 0 = v % 256 := byte_val _ (by omega) (by omega)
  have e1 : byteAt (le4 v ++ rest) 1 = v / 256 % 256 := byte_val _ (by omega) (by omega)
  have e2 : byteAt (le4 v ++ rest) 2 = v / 65536 % 256 := byte_val _ (by omega) (by omega)
  have e3 : byteAt (le4 v ++ rest) 3 = v / 16777216 % 256 := byte_val _ (by omega) (by omega)
  unfold leV
  rw [e0, e1, e2, e3]
  omega
theorem leV_at (pre : List UInt8) (v : Int) (rest : List UInt8) (h0 : 0 ≤ v) (h1 : v < 4294967296) : leV (pre ++ (le4 v ++ rest)) pre.length = v := by
  have := leV_app pre (le4 v ++ rest) 0
  rw [Nat.add_zero] at this
  rw [this, leV_le4 v rest h0 h1]
theorem getE_ok (bs : List UInt8) (k : Nat) (h : k + 4 ≤ bs.length) : getE bs k = 0 := by
  unfold getE
  rw [if_neg (by omega), if_neg (by omega)]
theorem getE_short (bs : List UInt8) (k : Nat) (h : k ≤ bs.length) (h2 : bs.length < k + 4) : getE bs k = 2 := by
  unfold getE
  rw [if_neg (by omega), if_pos (by omega)]
theorem getE_arg (bs : List UInt8) (k : Nat) (h : bs.length < k) : getE bs k = 1 := by
  unfold getE
  rw [if_pos (by omega)]
theorem getV_ok (bs : List UInt8) (k : Nat) (h : k + 4 ≤ bs.length) : getV bs k = leV bs k := by
  unfold getV
  rw [getE_ok bs k h, if_pos rfl, Int.toNat_natCast]

/-- A list that was put is got, wherever it stands. -/
theorem got_enc (pre l rest : List UInt8) (least : Nat) (h0 : least ≤ l.length) (h1 : l.length ≤ 4096) :
    gotE (pre ++ (encB l ++ rest)) pre.length least = 0 ∧ gotS (pre ++ (encB l ++ rest)) pre.length = l ∧ gotN (pre ++ (encB l ++ rest)) pre.length = pre.length + (encB l).length := by
  have hv : leV (pre ++ (encB l ++ rest)) pre.length = l.length := by
    have := leV_at pre l.length (l ++ List.replicate (fillN l.length - l.length) 0 ++ rest) (by omega) (by omega)
    rw [← this]; simp [encB]
  have hf := fillN_ge l.length
  have hl : (pre ++ (encB l ++ rest)).length = pre.length + 4 + fillN l.length + rest.length := by
    simp only [List.length_append, encB_length]; omega
  have hk : ((pre.length : Nat) : Int).toNat = pre.length := Int.toNat_natCast _
  have hd : (pre ++ (encB l ++ rest)).drop (pre.length + 4) = l ++ (List.replicate (fillN l.length - l.length) 0 ++ rest) := by
    rw [← List.drop_drop, List.drop_left]
    simp [encB, le4]
  refine ⟨?_, ?_, ?_⟩
  · simp only [gotE, hk, hv, Int.toNat_natCast]
    rw [if_neg (by rw [getE_ok _ _ (by omega)]; omega), if_neg (by omega), if_neg (by omega), if_neg (by omega), if_pos]
    rw [← List.drop_drop, hd, List.drop_left, List.take_left' (by simp)]
  · simp only [gotS, hk, hv, Int.toNat_natCast]
    rw [hd, List.take_left]
  · simp only [gotN, hk, hv, Int.toNat_natCast, encB_length]
    omega

theorem indexByte_none (l : List UInt8) (h : (0 : UInt8) ∉ l) : Lib.indexByte l 0 = -1 := by
  induction l with
  | nil => rfl
  | cons b l ih =>
    simp only [List.mem_cons, not_or] at h
    have hb : (b == 0) = false := by simpa using fun e => h.1 e.symm
    simp [Lib.indexByte, hb, ih h.2]
theorem indexByte_app (l r : List UInt8) (h : (0 : UInt8) ∉ l) : Lib.indexByte (l ++ 0 :: r) 0 = l.length := by
  induction l with
  | nil => simp [Lib.indexByte]
  | cons b l ih =>
    simp only [List.mem_cons, not_or] at h
    have hb : (b == 0) = false := by simpa using fun e => h.1 e.symm
    have := ih h.2
    simp only [List.cons_append, Lib.indexByte, hb, this]
    have hn : (((l.length : Nat) : Int) == -1) = false := by rw [beq_eq_false_iff_ne]; omega
    simp [hn]
/-- The first byte 0 splits a text. -/
theorem split_zero (l : List UInt8) : (0 : UInt8) ∉ l ∨ ∃ a b, l = a ++ 0 :: b ∧ (0 : UInt8) ∉ a := by
  induction l with
  | nil => left; simp
  | cons x l ih =>
    by_cases hx : x = 0
    · right; exact ⟨[], l, by simp [hx], by simp⟩
    · rcases ih with h | ⟨a, b, rfl, ha⟩
      · left; simp [h, Ne.symm hx]
      · right; exact ⟨x :: a, b, rfl, by simp [ha, Ne.symm hx]⟩
/-- A text that has its one byte 0 at its end, and none else. -/
theorem textOk_iff (l : List UInt8) : textOk (l ++ [0]) ↔ (0 : UInt8) ∉ l := by
  unfold textOk
  constructor
  · intro h
    rcases split_zero l with hl | ⟨a, b, rfl, ha⟩
    · exact hl
    · rw [show a ++ 0 :: b ++ [0] = a ++ 0 :: (b ++ [0]) by simp, indexByte_app a _ ha] at h
      simp at h; omega
  · intro h
    rw [indexByte_app l [] h]; simp
theorem textOk_last (l : List UInt8) (hl : l ≠ []) (h : textOk l) : ∃ a, l = a ++ [0] ∧ (0 : UInt8) ∉ a := by
  rcases split_zero l with h0 | ⟨a, b, rfl, ha⟩
  · unfold textOk at h
    rw [indexByte_none l h0] at h
    have : 0 < l.length := List.length_pos_iff.2 hl
    omega
  · unfold textOk at h
    rw [indexByte_app a b ha] at h
    have : b = [] := List.eq_nil_of_length_eq_zero (by simp at h; omega)
    exact ⟨a, by rw [this], ha⟩
theorem text_enc (pre l rest : List UInt8) (h0 : (0 : UInt8) ∉ l) (h1 : l.length ≤ 4095) :
    textE (pre ++ (encB (l ++ [0]) ++ rest)) pre.length = 0 ∧ (gotS (pre ++ (encB (l ++ [0]) ++ rest)) pre.length).dropLast = l ∧ gotN (pre ++ (encB (l ++ [0]) ++ rest)) pre.length = pre.length + (encB (l ++ [0])).length := by
  obtain ⟨e1, e2, e3⟩ := got_enc pre (l ++ [0]) rest 1 (by simp) (by simp; omega)
  refine ⟨?_, by rw [e2]; simp, e3⟩
  simp only [textE]
  rw [if_neg (by omega), e2, if_pos ((textOk_iff l).2 h0)]
theorem text_bad (pre l rest : List UInt8) (h0 : (0 : UInt8) ∈ l) (h1 : l.length ≤ 4095) : textE (pre ++ (encB (l ++ [0]) ++ rest)) pre.length = 3 := by
  obtain ⟨e1, e2, e3⟩ := got_enc pre (l ++ [0]) rest 1 (by simp) (by simp; omega)
  simp only [textE]
  rw [if_neg (by omega), e2, if_neg (fun h => (textOk_iff l).1 h h0)]
/-- What is cut is short. -/
theorem text_cut (l : List UInt8) (k : Nat) (h1 : l.length ≤ 4095) (hk : k < (encB (l ++ [0])).length) : textE ((encB (l ++ [0])).take k) (0 : Nat) = 2 := by
  have hl : ((encB (l ++ [0])).take k).length = k := by simp; omega
  rw [encB_length] at hk
  have hg : gotE ((encB (l ++ [0])).take k) (0 : Nat) 1 = 2 := by
    by_cases h4 : k < 4
    · have := getE_short ((encB (l ++ [0])).take k) 0 (by omega) (by omega)
      simp only [gotE]
      rw [if_pos (by rw [this]; omega), this]
    · have hz := getE_ok ((encB (l ++ [0])).take k) 0 (by omega)
      have hv : leV ((encB (l ++ [0])).take k) 0 = (l ++ [0]).length := by
        have e := leV_pre ((encB (l ++ [0])).take k) ((encB (l ++ [0])).drop k) 0 (by omega)
        rw [List.take_append_drop] at e
        rw [← e]
        have := leV_le4 (l ++ [0]).length ((l ++ [0]) ++ List.replicate (fillN (l ++ [0]).length - (l ++ [0]).length) 0) (by omega) (by simp; omega)
        rw [← this]; simp [encB]
      simp only [gotE, Int.toNat_natCast, hv, hl]
      simp only [List.length_append, List.length_cons, List.length_nil] at *
      rw [if_neg (by rw [hz]; omega), if_neg (by omega), if_neg (by omega), if_pos (by omega)]
  simp only [textE]
  rw [if_pos (by omega), hg]
end Go.Proofs.YtnaagmjjnapklaaDoor
