/- Plain laws: what is put is got; what is got is put as it was; what is cut is short. No condition. -/
import Derived.Test.YtihbgkighckiiaaDoorArgL
import Derived.Test.YtihbgkighckiiaaDoorWPut
import Derived.Test.YtihbgkighckiiaaDoorHead
namespace Go.Proofs.YtihbgkighckiiaaDoor
open Go.RowKit
set_option maxRecDepth 100000

theorem str_eq (s : ByteArray) : strB s.data.toList = s := by simp [strB]
theorem str_len2 (s : ByteArray) : s.data.toList.length = s.size := by rw [Array.length_toList]; rfl
theorem suchB_cases {k n : Int} {s : ByteArray} (h : suchB k n s = true) :
    ((k = 105 ∨ k = 102) ∧ s = ⟨#[]⟩ ∧ -2147483648 ≤ n ∧ n ≤ 2147483647) ∨ ((k = 117 ∨ k = 111) ∧ s = ⟨#[]⟩ ∧ 0 ≤ n ∧ n ≤ 4294967295) ∨ (k = 110 ∧ s = ⟨#[]⟩ ∧ 1 ≤ n ∧ n ≤ 4294967295) ∨
      (k = 115 ∧ n = 0 ∧ s.size ≤ 200 ∧ (0 : UInt8) ∉ s.data.toList) ∨ (k = 97 ∧ n = 0 ∧ s.size ≤ 200) := by
  unfold suchB suchI suchU suchN suchS suchA at h
  split at h
  · simp only [decide_eq_true_eq] at h; exact .inl ⟨by assumption, empty_of h.1, h.2⟩
  · split at h
    · simp only [decide_eq_true_eq] at h; exact .inr (.inl ⟨by assumption, empty_of h.1, h.2⟩)
    · split at h
      · simp only [decide_eq_true_eq] at h; exact .inr (.inr (.inl ⟨by assumption, empty_of h.1, h.2⟩))
      · split at h
        · simp only [decide_eq_true_eq] at h
          refine .inr (.inr (.inr (.inl ⟨by assumption, h.1, h.2.1, fun h0 => ?_⟩)))
          rcases split_zero s.data.toList with h2 | ⟨a, b, h2, h3⟩
          · exact h2 h0
          · have := indexByte_app a b h3
            rw [← h2] at this
            omega
        · split at h
          · simp only [decide_eq_true_eq] at h; exact .inr (.inr (.inr (.inr ⟨by assumption, h.1, h.2⟩)))
          · cases h
theorem argB_num {k n : Int} {s : ByteArray} (h1 : k ≠ 115) (h2 : k ≠ 97) : argB (k, n, s) = le4 (n % 4294967296) := by unfold argB; rw [if_neg h1, if_neg h2]
/-- One argument that was put is got. -/
theorem got_arg (pre rest : List UInt8) (x : ArgD) (h : suchB x.1 x.2.1 x.2.2 = true) :
    argE x.1 (pre ++ (argB x ++ rest)) pre.length = 0 ∧ argN x.1 (pre ++ (argB x ++ rest)) pre.length = x.2.1 ∧ argS x.1 (pre ++ (argB x ++ rest)) pre.length = x.2.2 ∧ argX x.1 (pre ++ (argB x ++ rest)) pre.length = pre.length + (argB x).length := by
  obtain ⟨k, n, s⟩ := x
  simp only at h ⊢
  rcases suchB_cases h with ⟨hk, hs, h1, h2⟩ | ⟨hk, hs, h1, h2⟩ | ⟨hk, hs, h1, h2⟩ | ⟨hk, hn, h1, h2⟩ | ⟨hk, hn, h1⟩
  · rw [argB_num (by omega) (by omega)]
    have hv := leV_at pre (n % 4294967296) rest (by omega) (by omega)
    have hl : (pre ++ (le4 (n % 4294967296) ++ rest)).length = pre.length + 4 + rest.length := by simp only [List.length_append, le4_length]; omega
    have hz := getE_ok (pre ++ (le4 (n % 4294967296) ++ rest)) pre.length (by omega)
    refine ⟨by unfold argE; rw [if_pos (by omega), hz], ?_, by unfold argS; rw [if_neg (by omega), if_neg (by omega), hs], by unfold argX; rw [if_neg (by omega), le4_length]⟩
    unfold argN signed
    rw [if_pos hk, hv]
    split <;> omega
  · rw [argB_num (by omega) (by omega)]
    have hv := leV_at pre (n % 4294967296) rest (by omega) (by omega)
    have hl : (pre ++ (le4 (n % 4294967296) ++ rest)).length = pre.length + 4 + rest.length := by simp only [List.length_append, le4_length]; omega
    have hz := getE_ok (pre ++ (le4 (n % 4294967296) ++ rest)) pre.length (by omega)
    refine ⟨by unfold argE; rw [if_pos (by omega), hz], ?_, by unfold argS; rw [if_neg (by omega), if_neg (by omega), hs], by unfold argX; rw [if_neg (by omega), le4_length]⟩
    unfold argN
    rw [if_neg (by omega), if_pos (by omega), hv]
    omega
  · rw [argB_num (by omega) (by omega)]
    have hv := leV_at pre (n % 4294967296) rest (by omega) (by omega)
    have hl : (pre ++ (le4 (n % 4294967296) ++ rest)).length = pre.length + 4 + rest.length := by simp only [List.length_append, le4_length]; omega
    have hz := getE_ok (pre ++ (le4 (n % 4294967296) ++ rest)) pre.length (by omega)
    refine ⟨by unfold argE; rw [if_neg (by omega), if_pos hk, if_neg (by omega), if_neg (by rw [hv]; omega)], ?_, by unfold argS; rw [if_neg (by omega), if_neg (by omega), hs], by unfold argX; rw [if_neg (by omega), le4_length]⟩
    unfold argN
    rw [if_neg (by omega), if_pos (by omega), hv]
    omega
  · have hb : argB (k, n, s) = encB (s.data.toList ++ [0]) := by unfold argB; rw [if_pos hk]
    rw [hb]
    obtain ⟨e1, e2, e3⟩ := text_enc pre s.data.toList rest h2 (by rw [str_len2]; omega)
    refine ⟨?_, by unfold argN; rw [if_neg (by omega), if_neg (by omega), hn], by unfold argS; rw [if_pos hk, e2, str_eq], by unfold argX; rw [if_pos (.inl hk), e3]⟩
    unfold argE
    rw [if_neg (by omega), if_neg (by omega), if_pos hk, if_neg (by omega), if_neg (by rw [e2, str_len2]; omega)]
  · have hb : argB (k, n, s) = encB s.data.toList := by unfold argB; rw [if_neg (by omega), if_pos hk]
    rw [hb]
    obtain ⟨e1, e2, e3⟩ := got_enc pre s.data.toList rest 0 (Nat.zero_le _) (by rw [str_len2]; omega)
    refine ⟨?_, by unfold argN; rw [if_neg (by omega), if_neg (by omega), hn], by unfold argS; rw [if_neg (by omega), if_pos hk, e2, str_eq], by unfold argX; rw [if_pos (.inr hk), e3]⟩
    unfold argE
    rw [if_neg (by omega), if_neg (by omega), if_neg (by omega), if_pos hk, if_neg (by omega), if_neg (by rw [e2, str_len2]; omega)]
theorem okArgs_cons {x : ArgD} {l : List ArgD} {c : UInt8} {s : List UInt8} (h : okArgs (x :: l) (c :: s) = true) : x.1 = c.toNat ∧ suchB x.1 x.2.1 x.2.2 = true ∧ okArgs l s = true := by
  simp only [okArgs, Bool.and_eq_true, decide_eq_true_eq] at h
  exact ⟨h.1.1, h.1.2, h.2⟩
/-- All arguments that were put are got. -/
theorem getArgs_put : ∀ (l : List ArgD) (s pre rest : List UInt8), okArgs l s = true → getArgs (pre ++ (bodyB l ++ rest)) s pre.length = (0, l, pre.length + (bodyB l).length)
  | [], [], pre, rest, _ => by simp [getArgs, bodyB]
  | [], c :: s, _, _, h => by simp [okArgs] at h
  | x :: l, [], _, _, h => by simp [okArgs] at h
  | x :: l, c :: s, pre, rest, h => by
    obtain ⟨h1, h2, h3⟩ := okArgs_cons h
    have hb : bodyB (x :: l) = argB x ++ bodyB l := by simp [bodyB]
    obtain ⟨e1, e2, e3, e4⟩ := got_arg pre (bodyB l ++ rest) x h2
    have ih := getArgs_put l s (pre ++ argB x) rest h3
    rw [List.length_append] at ih
    have ea : pre ++ argB x ++ (bodyB l ++ rest) = pre ++ (argB x ++ (bodyB l ++ rest)) := by rw [List.append_assoc]
    rw [ea] at ih
    rw [hb, List.append_assoc, getArgs, ← h1, if_neg (by omega), e2, e3, e4, ih]
    simp only [List.length_append]
    rw [Nat.add_assoc]
theorem gotE_cut (pre l : List UInt8) (k least : Nat) (h1 : l.length ≤ 4096) (hl : least ≤ l.length) (hk : k < (encB l).length) : gotE (pre ++ (encB l).take k) pre.length least = 2 := by
  have hlen : (pre ++ (encB l).take k).length = pre.length + k := by rw [List.length_append, List.length_take]; omega
  by_cases h4 : k < 4
  · have := getE_short (pre ++ (encB l).take k) pre.length (by omega) (by omega)
    simp only [gotE]
    rw [if_pos (by rw [this]; omega), this]
  · have hz := getE_ok (pre ++ (encB l).take k) pre.length (by omega)
    have hv : leV (pre ++ (encB l).take k) pre.length = l.length := by
      have e0 := leV_app pre ((encB l).take k) 0
      rw [Nat.add_zero] at e0
      rw [e0]
      have e := leV_pre ((encB l).take k) ((encB l).drop k) 0 (by rw [List.length_take]; omega)
      rw [List.take_append_drop] at e
      rw [← e]
      have := leV_le4 l.length (l ++ List.replicate (fillN l.length - l.length) 0) (by omega) (by omega)
      rw [← this]; simp [encB]
    rw [encB_length] at hk
    simp only [gotE, Int.toNat_natCast, hv, hlen]
    rw [if_neg (by rw [hz]; omega), if_neg (by omega), if_neg (by omega), if_pos (by omega)]
/-- An argument that is cut is short. -/
theorem cut_arg (pre : List UInt8) (x : ArgD) (k : Nat) (h : suchB x.1 x.2.1 x.2.2 = true) (hk : k < (argB x).length) : argE x.1 (pre ++ (argB x).take k) pre.length = 2 := by
  obtain ⟨c, n, s⟩ := x
  simp only at h ⊢
  have hlen : (pre ++ (argB (c, n, s)).take k).length = pre.length + k := by rw [List.length_append, List.length_take]; omega
  rcases suchB_cases h with ⟨hc, hs, h1, h2⟩ | ⟨hc, hs, h1, h2⟩ | ⟨hc, hs, h1, h2⟩ | ⟨hc, hn, h1, h2⟩ | ⟨hc, hn, h1⟩
  · have hk4 : k < 4 := by rw [argB_num (by omega) (by omega), le4_length] at hk; exact hk
    unfold argE
    rw [if_pos (by omega)]
    exact getE_short _ _ (by omega) (by omega)
  · have hk4 : k < 4 := by rw [argB_num (by omega) (by omega), le4_length] at hk; exact hk
    unfold argE
    rw [if_pos (by omega)]
    exact getE_short _ _ (by omega) (by omega)
  · have hk4 : k < 4 := by rw [argB_num (by omega) (by omega), le4_length] at hk; exact hk
    have := getE_short (pre ++ (argB (c, n, s)).take k) pre.length (by omega) (by omega)
    unfold argE
    rw [if_neg (by omega), if_pos hc, if_pos (by omega), this]
  · have hb : argB (c, n, s) = encB (s.data.toList ++ [0]) := by unfold argB; rw [if_pos hc]
    rw [hb] at hk ⊢
    have hg := gotE_cut pre (s.data.toList ++ [0]) k 1 (by rw [List.length_append, str_len2]; simp; omega) (by simp) hk
    have ht : textE (pre ++ (encB (s.data.toList ++ [0])).take k) pre.length = 2 := by unfold textE; rw [if_pos (by omega), hg]
    unfold argE
    rw [if_neg (by omega), if_neg (by omega), if_pos hc, if_pos (by omega), ht]
  · have hb : argB (c, n, s) = encB s.data.toList := by unfold argB; rw [if_neg (by omega), if_pos hc]
    rw [hb] at hk ⊢
    have hg := gotE_cut pre s.data.toList k 0 (by rw [str_len2]; omega) (Nat.zero_le _) hk
    unfold argE
    rw [if_neg (by omega), if_neg (by omega), if_neg (by omega), if_pos hc, if_pos (by omega), hg]
theorem getArgs_cut : ∀ (l : List ArgD) (s pre : List UInt8) (k : Nat), okArgs l s = true → k < (bodyB l).length → (getArgs (pre ++ (bodyB l).take k) s pre.length).1 = 2
  | [], _, _, k, _, hk => by simp [bodyB] at hk
  | x :: l, [], _, _, h, _ => by simp [okArgs] at h
  | x :: l, c :: s, pre, k, h, hk => by
    obtain ⟨h1, h2, h3⟩ := okArgs_cons h
    have hb : bodyB (x :: l) = argB x ++ bodyB l := by simp [bodyB]
    rw [hb] at hk ⊢
    rw [List.length_append] at hk
    by_cases hka : k < (argB x).length
    · have e := cut_arg pre x k h2 hka
      rw [List.take_append_of_le_length (by omega), getArgs, ← h1, if_pos (by omega)]
      exact e
    · have et : (argB x ++ bodyB l).take k = argB x ++ (bodyB l).take (k - (argB x).length) := by rw [List.take_append, List.take_of_length_le (by omega)]
      obtain ⟨e1, e2, e3, e4⟩ := got_arg pre ((bodyB l).take (k - (argB x).length)) x h2
      have ih := getArgs_cut l s (pre ++ argB x) (k - (argB x).length) h3 (by omega)
      rw [List.length_append, List.append_assoc] at ih
      rw [et, getArgs, ← h1, if_neg (by omega), e4]
      exact ih
/-- Bytes as a number, and back. -/
theorem le4_leV (bs : List UInt8) (a : Nat) (h : a + 4 ≤ bs.length) : le4 (leV bs a) = (bs.drop a).take 4 := by
  have e : (bs.drop a).take 4 = [bs[a], bs[a + 1], bs[a + 2], bs[a + 3]] := by
    rw [List.drop_eq_getElem_cons (by omega), List.take_succ_cons, List.drop_eq_getElem_cons (by omega), List.take_succ_cons, List.drop_eq_getElem_cons (by omega), List.take_succ_cons, List.drop_eq_getElem_cons (by omega), List.take_succ_cons, List.take_zero]
  have b : ∀ j (hj : j < bs.length), byteAt bs j = (bs[j].toNat : Int) := fun j hj => by unfold byteAt; rw [List.getElem?_eq_getElem hj]; rfl
  have h0 := byteAt_lt bs a
  have h1 := byteAt_lt bs (a + 1)
  have h2 := byteAt_lt bs (a + 2)
  have h3 := byteAt_lt bs (a + 3)
  rw [e]
  unfold le4 leV
  have r : ∀ (x : UInt8) (v : Int), v = x.toNat → UInt8.ofNat v.toNat = x := fun x v hv => by subst hv; simp
  rw [r bs[a] _ (by rw [← b a (by omega)]; omega), r bs[a + 1] _ (by rw [← b (a + 1) (by omega)]; omega), r bs[a + 2] _ (by rw [← b (a + 2) (by omega)]; omega), r bs[a + 3] _ (by rw [← b (a + 3) (by omega)]; omega)]
theorem enc_got (bs : List UInt8) (a least : Nat) (h : gotE bs a least = 0) : encB (gotS bs a) = (bs.drop a).take (gotN bs a - a) := by
  obtain ⟨g1, g2, g3, g4⟩ := gotS_length bs a least h
  obtain ⟨l0, l1⟩ := leV_nonneg bs a
  have hf := fillN_ge (leV bs a).toNat
  have hfill : (bs.drop (a + 4 + (leV bs a).toNat)).take (fillN (leV bs a).toNat - (leV bs a).toNat) = List.replicate (fillN (leV bs a).toNat - (leV bs a).toNat) 0 := by
    unfold gotE at h
    simp only [Int.toNat_natCast] at h
    split at h
    · omega
    · split at h
      · omega
      · split at h
        · omega
        · split at h
          · omega
          · split at h
            · assumption
            · omega
  have hn : gotN bs a = a + 4 + fillN (leV bs a).toNat := by unfold gotN; rw [Int.toNat_natCast]
  rw [Int.toNat_natCast] at g1
  have e1 := le4_leV bs a (by omega)
  unfold encB
  rw [g1, ← hfill, show ((leV bs a).toNat : Int) = leV bs a by omega, e1, hn]
  have e2 : gotS bs a = ((bs.drop a).drop 4).take (leV bs a).toNat := by unfold gotS; rw [Int.toNat_natCast, List.drop_drop]
  have e3 : bs.drop (a + 4 + (leV bs a).toNat) = ((bs.drop a).drop 4).drop (leV bs a).toNat := by rw [List.drop_drop, List.drop_drop]; congr 1; omega
  rw [e2, e3, List.append_assoc, ← List.take_add, ← List.take_add]
  congr 1
  omega
theorem arg_back (k : Int) (bs : List UInt8) (a : Nat) (h : argE k bs a = 0) : argB (k, argN k bs a, argS k bs a) = (bs.drop a).take (argX k bs a - a) := by
  obtain ⟨x0, x1⟩ := leV_bd bs a
  have hget : getE bs a = 0 → a + 4 ≤ bs.length := fun h => by
    unfold getE at h
    split at h
    · omega
    · split at h <;> omega
  by_cases hk1 : k = 105 ∨ k = 102
  · unfold argE at h
    rw [if_pos (by omega)] at h
    rw [argB_num (by omega) (by omega)]
    have e : argN k bs a % 4294967296 = leV bs a := by unfold argN signed; rw [if_pos hk1]; split <;> omega
    have ex : argX k bs a - a = 4 := by unfold argX; rw [if_neg (by omega)]; omega
    rw [e, ex]
    exact le4_leV bs a (hget h)
  · by_cases hk2 : k = 117 ∨ k = 111 ∨ k = 110
    · have hg : getE bs a = 0 := by
        unfold argE at h
        split at h
        · exact h
        · split at h
          · split at h <;> omega
          · omega
      rw [argB_num (by omega) (by omega)]
      have e : argN k bs a % 4294967296 = leV bs a := by unfold argN; rw [if_neg hk1, if_pos hk2]; omega
      have ex : argX k bs a - a = 4 := by unfold argX; rw [if_neg (by omega)]; omega
      rw [e, ex]
      exact le4_leV bs a (hget hg)
    · by_cases hk3 : k = 115
      · unfold argE at h
        rw [if_neg (by omega), if_neg (by omega), if_pos hk3] at h
        have ht : textE bs a = 0 := by split at h <;> omega
        have hg : gotE bs a 1 = 0 := by unfold textE at ht; split at ht <;> omega
        have hok : textOk (gotS bs a) := by
          unfold textE at ht
          split at ht
          · omega
          · split at ht
            · assumption
            · omega
        have hl := (gotS_length bs a 1 hg).2.1
        obtain ⟨t, e2, _⟩ := textOk_last (gotS bs a) (by intro h0; rw [h0] at hl; simp at hl) hok
        have eb : argB (k, argN k bs a, argS k bs a) = encB (gotS bs a) := by
          unfold argB argS
          rw [if_pos hk3]
          simp only [if_pos hk3, strB_toList]
          rw [e2, List.dropLast_concat]
        have ex : argX k bs a = gotN bs a := by unfold argX; rw [if_pos (.inl hk3)]
        rw [eb, ex]
        exact enc_got bs a 1 hg
      · by_cases hk4 : k = 97
        · unfold argE at h
          rw [if_neg (by omega), if_neg (by omega), if_neg hk3, if_pos hk4] at h
          have hg : gotE bs a 0 = 0 := by split at h <;> omega
          have eb : argB (k, argN k bs a, argS k bs a) = encB (gotS bs a) := by
            unfold argB argS
            rw [if_neg hk3, if_pos hk4]
            simp only [if_neg hk3, if_pos hk4, strB_toList]
          have ex : argX k bs a = gotN bs a := by unfold argX; rw [if_pos (.inr hk4)]
          rw [eb, ex]
          exact enc_got bs a 0 hg
        · unfold argE at h
          rw [if_neg (by omega), if_neg (by omega), if_neg hk3, if_neg hk4] at h
          omega
/-- What is got is put as it was. -/
theorem getArgs_back (bs : List UInt8) : ∀ (s : List UInt8) (a : Nat), a ≤ bs.length → (getArgs bs s a).1 = 0 → bodyB (getArgs bs s a).2.1 = (bs.drop a).take ((getArgs bs s a).2.2 - a)
  | [], a, _, _ => by simp [getArgs, bodyB]
  | c :: s, a, ha, h => by
    rw [getArgs] at h ⊢
    split at h
    · rename_i hx; exact absurd h hx
    · rename_i hx
      rw [if_neg hx]
      obtain ⟨h1, h2⟩ := argX_le c.toNat bs a (by omega)
      have hle := getArgs_le bs s _ h2
      have e := arg_back c.toNat bs a (by omega)
      have ih := getArgs_back bs s _ h2 h
      simp only at ih ⊢
      have hb : bodyB (((c.toNat : Int), argN c.toNat bs a, argS c.toNat bs a) :: (getArgs bs s (argX c.toNat bs a)).2.1) = argB ((c.toNat : Int), argN c.toNat bs a, argS c.toNat bs a) ++ bodyB (getArgs bs s (argX c.toNat bs a)).2.1 := by simp [bodyB]
      rw [hb, e, ih]
      have e3 : bs.drop (argX c.toNat bs a) = (bs.drop a).drop (argX c.toNat bs a - a) := by rw [List.drop_drop]; congr 1; omega
      rw [e3, ← List.take_add]
      congr 1
      omega
theorem argB_four {x : ArgD} : (argB x).length % 4 = 0 := by
  unfold argB
  split
  · rw [encB_length]; unfold fillN; omega
  · split
    · rw [encB_length]; unfold fillN; omega
    · rw [le4_length]
theorem bodyB_four (l : List ArgD) : (bodyB l).length % 4 = 0 := by
  induction l with
  | nil => rfl
  | cons x l ih =>
    have := argB_four (x := x)
    simp only [bodyB, List.flatMap_cons, List.length_append] at *
    omega
theorem put_small {o p : Int} {l : List ArgD} {sig : ByteArray} (h : putE o p l sig = 0) : (bodyB l).length + 8 ≤ 4096 := by
  have hcb : checkB o p l sig = true := by unfold putE at h; split at h; assumption; omega
  unfold putE at h; rw [hcb, if_pos rfl] at h; split at h <;> omega
/-- A message that is put: its head; its arguments. -/
theorem put_back {o p : Int} {l : List ArgD} {sig : ByteArray} (h : putE o p l sig = 0) : 8 ≤ (putB o p l).length ∧ (putB o p l).drop 8 = bodyB l ∧ (putB o p l).length = (bodyB l).length + 8 ∧
    headE (putB o p l) = 0 ∧ headO (putB o p l) = o ∧ headP (putB o p l) = p ∧ headN (putB o p l) = (putB o p l).length ∧ mgetE o p (bodyB l) sig = 0 ∧ mgetL o p (bodyB l) sig = l ∧ checkB o p l sig = true := by
  have hcb : checkB o p l sig = true := by unfold putE at h; split at h; assumption; omega
  have hbig : (bodyB l).length + 8 ≤ 4096 := by unfold putE at h; rw [hcb, if_pos rfl] at h; split at h <;> omega
  have hop : 1 ≤ o ∧ o ≤ 4294967295 ∧ 0 ≤ p ∧ p < 65536 := by unfold checkB headOk at hcb; simp at hcb; omega
  have hok : okArgs l sig.data.toList = true := by unfold checkB at hcb; simp only [Bool.and_eq_true] at hcb; exact hcb.2
  have h4 := bodyB_four l
  obtain ⟨bl, hbl⟩ : ∃ bl, bl = (bodyB l).length := ⟨_, rfl⟩
  rw [← hbl] at hbig h4
  obtain ⟨y, hy⟩ : ∃ y : Int, y = (((bodyB l).length + 8 : Nat) : Int) * 65536 + p := ⟨_, rfl⟩
  have e0 : putB o p l = le4 o ++ le4 y ++ bodyB l := by unfold putB; rw [hy]
  have e : le4 o ++ le4 y ++ bodyB l = le4 o ++ (le4 y ++ bodyB l) := by rw [List.append_assoc]
  rw [← hbl] at hy
  have l4 : leV (le4 o ++ le4 y ++ bodyB l) 4 = y := by rw [e]; exact leV_at (le4 o) y (bodyB l) (by omega) (by omega)
  have l0 : leV (le4 o ++ le4 y ++ bodyB l) 0 = o := by rw [e]; exact leV_le4 o _ (by omega) (by omega)
  have x1 := le4_length o
  have x2 := le4_length y
  rw [e0, ← hbl]
  clear e e0
  generalize le4 o = X at *
  generalize le4 y = Y at *
  have hl : (X ++ Y ++ bodyB l).length = bl + 8 := by simp only [List.length_append, x1, x2, ← hbl]; omega
  have hl2 : (X ++ Y).length = 8 := by simp only [List.length_append, x1, x2]
  have hd : (X ++ Y ++ bodyB l).drop 8 = bodyB l := List.drop_left' hl2
  have hE : headE (X ++ Y ++ bodyB l) = 0 := by unfold headE; rw [if_neg (by omega), l4, if_neg (by omega), if_neg (by omega)]
  obtain ⟨g1, g2, g3⟩ := head_ok hE
  have hg := getArgs_put l sig.data.toList [] [] hok
  simp only [List.nil_append, List.append_nil, List.length_nil, Nat.zero_add] at hg
  have hm : mgetE o p (bodyB l) sig = 0 := by
    unfold mgetE
    rw [hg]
    simp only [ne_eq, not_true_eq_false, if_false, Nat.lt_irrefl]
    unfold checkE; rw [hcb]; rfl
  refine ⟨by omega, hd, hl, hE, by rw [g1, l0], by rw [g2, l4]; omega, by rw [g3, l4, hl]; omega, hm, ?_, hcb⟩
  unfold mgetL
  rw [if_pos hm, hg]
theorem put_cut {o p o2 p2 : Int} {l : List ArgD} {sig : ByteArray} (h : putE o p l sig = 0) (k : Nat) (hk : k < (bodyB l).length) : mgetE o2 p2 ((bodyB l).take k) sig = 2 := by
  have hok : okArgs l sig.data.toList = true := by have := (put_back h).2.2.2.2.2.2.2.2.2; unfold checkB at this; simp only [Bool.and_eq_true] at this; exact this.2
  have := getArgs_cut l sig.data.toList [] k hok hk
  rw [List.nil_append] at this
  unfold mgetE
  have this' : (getArgs ((bodyB l).take k) sig.data.toList 0).1 = 2 := this
  rw [if_pos (by omega), this']
theorem put_more {o p o2 p2 : Int} {l : List ArgD} {sig : ByteArray} (h : putE o p l sig = 0) : mgetE o2 p2 (bodyB l ++ [0, 0, 0, 0]) sig = 3 := by
  have hok : okArgs l sig.data.toList = true := by have := (put_back h).2.2.2.2.2.2.2.2.2; unfold checkB at this; simp only [Bool.and_eq_true] at this; exact this.2
  have := getArgs_put l sig.data.toList [] [0, 0, 0, 0] hok
  simp only [List.nil_append, List.length_nil, Nat.zero_add] at this
  unfold mgetE
  rw [this]
  simp
theorem get_back {o p : Int} {bs : List UInt8} {sig : ByteArray} (h : mgetE o p bs sig = 0) (hl : bs.length ≤ 4000) : putE o p (mgetL o p bs sig) sig = 0 ∧ (putR o p (mgetL o p bs sig) sig).drop 8 = bs ∧ 8 ≤ (putR o p (mgetL o p bs sig) sig).length := by
  have h1 : (getArgs bs sig.data.toList 0).1 = 0 := by unfold mgetE at h; split at h; omega; omega
  have h2 : ¬ (getArgs bs sig.data.toList 0).2.2 < bs.length := by unfold mgetE at h; rw [if_neg (by omega)] at h; split at h; omega; assumption
  have h3 : checkE o p (getArgs bs sig.data.toList 0).2.1 sig = 0 := by unfold mgetE at h; rw [if_neg (by omega), if_neg h2] at h; exact h
  have hle := getArgs_le bs sig.data.toList 0 (Nat.zero_le _)
  have hb := getArgs_back bs sig.data.toList 0 (Nat.zero_le _) h1
  rw [List.drop_zero, Nat.sub_zero, List.take_of_length_le (by omega)] at hb
  have hL : mgetL o p bs sig = (getArgs bs sig.data.toList 0).2.1 := by unfold mgetL; rw [if_pos h]
  rw [hL]
  have hcb : checkB o p (getArgs bs sig.data.toList 0).2.1 sig = true := by unfold checkE at h3; split at h3; assumption; omega
  have hp : putE o p (getArgs bs sig.data.toList 0).2.1 sig = 0 := by unfold putE; rw [hcb, if_pos rfl, hb, if_neg (by omega)]
  have hpb := put_back hp
  refine ⟨hp, ?_, ?_⟩
  · unfold putR; rw [if_pos hp, hpb.2.1, hb]
  · unfold putR; rw [if_pos hp]; exact hpb.1
end Go.Proofs.YtihbgkighckiiaaDoor
