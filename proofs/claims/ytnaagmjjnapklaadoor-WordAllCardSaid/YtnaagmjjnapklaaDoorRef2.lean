/- The document's words: tableauref01's get, GetText, GetList, Fixed, Whole. No condition. -/
import Derived.Test.YtnaagmjjnapklaaDoorRef1
import Derived.Test.YtnaagmjjnapklaaDoorWordT
namespace Go.Proofs.YtnaagmjjnapklaaDoor
open Go.RowKit
set_option maxRecDepth 100000

/-- get's answer. -/
def rgotR (bs : List UInt8) (at_ : Int) : Value :=
  if gotE bs at_ 0 = 0 then .tuple #[.string (strB (gotS bs at_)), .int .i64 (gotN bs at_), .int .i64 0] else .tuple #[.string (strB []), .int .i64 0, .int .i64 (gotE bs at_ 0)]

set_option maxHeartbeats 400000 in
theorem rgot_err (v : Value) (bs : List UInt8) (at_ : Int) (w : World) (h : Sl w w.heap.size v (bv bs)) (he : getE bs at_ ≠ 0) :
    Calls Tryd.prog 33 #[v, .int .i64 at_] w fun e w' => e = .returned (.tuple #[.string (strB []), .int .i64 0, .int .i64 (getE bs at_)]) ∧ Below w.heap.size w w' := by
  obtain ⟨k, hk⟩ : ∃ k, k = getE bs at_ := ⟨_, rfl⟩
  rw [← hk] at he
  have hne : ((k : Int) != 0) = true := by rw [bne_iff_ne]; omega
  have HK := Lib.hid hk
  clear hk he
  go_enter Tryd.func33, Tryd.ntmps33
  go_wp2_with fail
  refine (rget_any v bs at_ w h).mono ?_
  rintro e w1 ⟨rfl, hb1⟩
  rw [← HK.out]
  go_wp2
  refine bodyPost_ret (results_tmp3 rfl _ _ _) rfl ?_
  exact ⟨by rw [← HK.out]; rfl, hb1⟩
set_option maxHeartbeats 400000 in
theorem rgot_big (v : Value) (bs : List UInt8) (at_ n : Nat) (w : World) (h : Sl w w.heap.size v (bv bs)) (hat : at_ + 4 ≤ bs.length) (hn : leV bs at_ = n) (hb : 4096 < n) :
    Calls Tryd.prog 33 #[v, .int .i64 at_] w fun e w' => e = .returned (.tuple #[.string (strB []), .int .i64 0, .int .i64 4]) ∧ Below w.heap.size w w' := by
  have hn2 := (leV_nonneg bs at_).2
  rw [hn] at hn2
  have HN := Lib.hid hn
  clear hn
  go_enter Tryd.func33, Tryd.ntmps33
  go_wp2_with fail
  refine (rget_ok v bs at_ w h hat).mono ?_
  rintro e w1 ⟨rfl, hb1⟩
  rw [HN.out]
  have hd : decide (4096 < (n : Int)) = true := by simp; omega
  go_wp2
  refine bodyPost_ret (results_tmp3 rfl _ _ _) rfl ?_
  exact ⟨rfl, hb1⟩
set_option maxHeartbeats 800000 in
theorem rgot_cut (v : Value) (bs : List UInt8) (at_ n : Nat) (w : World) (h : Sl w w.heap.size v (bv bs)) (hat : at_ + 4 ≤ bs.length) (hn : leV bs at_ = n) (hn4 : n ≤ 4096) (hc : bs.length < at_ + 4 + fillN n) :
    Calls Tryd.prog 33 #[v, .int .i64 at_] w fun e w' => e = .returned (.tuple #[.string (strB []), .int .i64 0, .int .i64 2]) ∧ Below w.heap.size w w' := by
  have HN := Lib.hid hn
  have HS := Lib.hid h
  obtain ⟨_, Ad, c, hv, hcc, hmm, _, _⟩ := h
  rw [bv_length] at hv hcc
  obtain ⟨l, hl2⟩ : ∃ l, l = bs.length := ⟨_, rfl⟩
  have HAT := Lib.hid hat
  rw [← hl2] at hv hcc hat hc
  subst hv
  unfold maxLen at hmm
  have hd : decide (4096 < (n : Int)) = false := by simp; omega
  have hd2 : decide ((l : Int) - (at_ : Int) - 4 < ((n : Int) + 3) / 4 * 4) = true := by unfold fillN at hc; simp; omega
  clear hn hl2 hc
  go_enter Tryd.func33, Tryd.ntmps33
  go_wp2_with fail
  refine (rget_ok _ bs at_ w HS.out HAT.out).mono ?_
  rintro e w1 ⟨rfl, hb1⟩
  rw [HN.out]
  go_wp2
  refine bodyPost_ret (results_tmp3 rfl _ _ _) rfl ?_
  exact ⟨rfl, hb1⟩

def RZeroRel (bs : List UInt8) (s0 n m : Nat) (i : Value) : Prop := ∃ q : Nat, n ≤ q ∧ q ≤ n + m ∧ i = .int .i64 q ∧ ∀ j, n ≤ j → j < q → byteAt bs (s0 + j) = 0
set_option maxHeartbeats 1600000 in
theorem rgot_rest (v : Value) (bs : List UInt8) (at_ n : Nat) (w : World) (h : Sl w w.heap.size v (bv bs)) (hat : at_ + 4 ≤ bs.length) (hn : leV bs at_ = n) (hn4 : n ≤ 4096) (hc : at_ + 4 + fillN n ≤ bs.length) :
    Calls Tryd.prog 33 #[v, .int .i64 at_] w fun e w' =>
      (((∀ j, j < fillN n - n → byteAt bs (at_ + 4 + n + j) = 0) ∧ e = .returned (.tuple #[.string (strB ((bs.drop (at_ + 4)).take n)), .int .i64 (at_ + 4 + fillN n : Nat), .int .i64 0])) ∨
       ((∃ j, j < fillN n - n ∧ byteAt bs (at_ + 4 + n + j) ≠ 0) ∧ e = .returned (.tuple #[.string (strB []), .int .i64 0, .int .i64 3]))) ∧ Below w.heap.size w w' := by
  have hfl := fillN_lt n
  have hfg := fillN_ge n
  obtain ⟨m, hm⟩ : ∃ m, m = fillN n - n := ⟨_, rfl⟩
  have hfe : ((n : Int) + 3) / 4 * 4 = n + m := by rw [hm]; unfold fillN at *; omega
  have HFE : Hid (((fillN n : Nat) : Int) = n + m) := by show _ = _; omega
  have HS := Lib.hid h
  have HAT := Lib.hid hat
  have HN := Lib.hid hn
  obtain ⟨_, Ad, c, hv, hcc, hmm, _, hx⟩ := h
  rw [bv_length] at hv hcc hx
  obtain ⟨b, off, rfl, hB, hx⟩ := hx (by omega)
  obtain ⟨l, hl2⟩ : ∃ l, l = bs.length := ⟨_, rfl⟩
  rw [← hl2] at hv hcc hat hc
  subst hv
  unfold maxLen at hmm
  have HX := Lib.hid (And.intro hl2 (And.intro hB (And.intro hx hm)))
  have hml : at_ + 4 + n + m ≤ l := by omega
  have hd : decide (4096 < (n : Int)) = false := by simp; omega
  have hd2 : decide ((l : Int) - (at_ : Int) - 4 < (n : Int) + (m : Int)) = false := by simp; omega
  clear hl2 hx hn hm hfl hfg hc hB
  go_enter Tryd.func33, Tryd.ntmps33
  go_wp2_with fail
  refine (rget_ok _ bs at_ w HS.out HAT.out).mono ?_
  rintro e w1 ⟨rfl, hb1⟩
  rw [HN.out]
  have HB1 := Lib.hid hb1
  have HCELL : Hid (∀ q, q < l → w1.cell? ⟨b, off + q, none⟩ = some (.int .u8 (byteAt bs q))) := fun q hq => by
    have := HX.out.2.2.1 q _ (bv_at bs q (by rw [← HX.out.1]; exact hq))
    rw [← this]
    exact hb1.cell (p := ⟨b, off + q, none⟩) HX.out.2.1
  clear hb1
  have hcv : ∀ cc, (at_ + 4 < c → cc = c - (at_ + 4)) → (c = at_ + 4 → cc = 0) → (convert 23 9 (.slice (some ⟨b, if at_ + 4 < c then off + (at_ + 4) else off, none⟩) n cc)).run Tryd.prog w1 = .ok (.string (strB ((bs.drop (at_ + 4)).take n))) w1 := fun cc hcc1 hcc2 => by
    refine conv_str Tryd.underlying23 Tryd.underlying5 Tryd.underlying9 (B := w1.heap.size) (n := n) ?_
    have hll := HX.out.1
    refine ⟨by rw [bv_length]; simp; omega, _, _, rfl, by omega, by unfold maxLen; omega, (fun h => by cases h), fun hn => ⟨b, _, rfl, by have := HX.out.2.1; have := HB1.out.size; omega, fun j u hu => ?_⟩⟩
    rw [if_pos (by omega)]
    rw [bv_take, bv_drop] at hu
    have hj : j < n := by
      have := (List.getElem?_eq_some_iff.1 hu).1
      simp at this; omega
    rw [List.getElem?_take_of_lt hj, List.getElem?_drop] at hu
    have := HX.out.2.2.1 _ _ hu
    rw [← this, Nat.add_assoc off]
    exact HB1.out.cell (p := ⟨b, off + (at_ + 4 + j), none⟩) HX.out.2.1
  have HCV := Lib.hid hcv
  clear hcv
  have HEND : Hid (((at_ + 4 + fillN n : Nat) : Int) = at_ + 4 + (n + m)) := by
    have := HFE.out
    show _ = _
    omega
  go_wp2_with fail
  go_loop [11] (RZeroRel bs (at_ + 4) n m) (fun i => n + m - (intOf i).toNat)
  case atStart => exact ⟨n, Nat.le_refl _, by omega, rfl, fun j h1 h2 => by omega⟩
  case round =>
    obtain ⟨q, hq1, hq2, rfl, hz⟩ := hrel
    have HZ := Lib.hid hz
    clear hz
    by_cases hlt : q < n + m
    · have hcell := HCELL.out (at_ + 4 + q) (by omega)
      obtain ⟨y, hy⟩ : ∃ y, y = byteAt bs (at_ + 4 + q) := ⟨_, rfl⟩
      rw [← hy] at hcell
      have HY := Lib.hid hy
      clear hy
      by_cases hy0 : y = 0
      · have hne : (y != 0) = false := by simp [hy0]
        have HY0 := Lib.hid hy0
        clear hy0
        go_wp2_with fail
        go_round
        case rel => exact ⟨q + 1, by omega, by omega, by go_num, fun j h1 h2 => by
          rcases Nat.lt_succ_iff_lt_or_eq.1 h2 with h | rfl
          · exact HZ.out j h1 h
          · rw [← HY.out]; exact HY0.out⟩
        case measure => simp [intOf]; omega
      · have hne : (y != 0) = true := by simpa using hy0
        have HY0 := Lib.hid hy0
        clear hy0
        go_wp2_with fail
        refine bodyPost_ret (results_tmp3 rfl _ _ _) rfl ?_
        exact ⟨.inr ⟨⟨q - n, by rw [← HX.out.2.2.2]; omega, by rw [show at_ + 4 + n + (q - n) = at_ + 4 + q by omega, ← HY.out]; exact HY0.out⟩, rfl⟩, HB1.out⟩
    · obtain rfl : q = n + m := by omega
      have HZ2 : Hid (∀ j, j < fillN n - n → byteAt bs (at_ + 4 + n + j) = 0) := fun j hj => by
        rw [show at_ + 4 + n + j = at_ + 4 + (n + j) by omega]
        exact HZ.out (n + j) (by omega) (by have := HX.out.2.2.2; omega)
      rcases Nat.lt_or_ge (at_ + 4) c with h4 | h4
      · have hcv := HCV.out (c - (at_ + 4)) (fun _ => rfl) (fun h => by omega)
        rw [if_pos h4] at hcv
        obtain ⟨st, hst⟩ : ∃ s, s = strB ((bs.drop (at_ + 4)).take n) := ⟨_, rfl⟩
        rw [← hst] at hcv
        have HST := Lib.hid hst
        clear hst
        go_wp2_with fail
        refine bodyPost_ret (results_tmp3 rfl _ _ _) rfl ?_
        exact ⟨.inl ⟨HZ2.out, by first | (rw [HEND.out, ← HST.out]; rfl) | (rw [HFE.out, ← HST.out]; rfl)⟩, HB1.out⟩
      · obtain rfl : c = at_ + 4 := by omega
        obtain rfl : n = 0 := by omega
        obtain rfl : m = 0 := by omega
        have hcv := HCV.out 0 (fun h => by omega) (fun _ => rfl)
        rw [if_neg (by omega)] at hcv
        obtain ⟨st, hst⟩ : ∃ s, s = strB ((bs.drop (at_ + 4)).take 0) := ⟨_, rfl⟩
        rw [← hst] at hcv
        have HST := Lib.hid hst
        clear hst
        go_wp2_with fail
        refine bodyPost_ret (results_tmp3 rfl _ _ _) rfl ?_
        exact ⟨.inl ⟨HZ2.out, by first | (rw [HFE.out, ← HST.out]; rfl) | (have h9 := HST.out; simp only [List.take_zero] at h9; rw [HFE.out, ← h9]; rfl)⟩, HB1.out⟩

theorem rgets_any (v : Value) (bs : List UInt8) (at_ : Int) (w : World) (h : Sl w w.heap.size v (bv bs)) :
    Calls Tryd.prog 33 #[v, .int .i64 at_] w fun e w' => e = .returned (rgotR bs at_) ∧ Below w.heap.size w w' := by
  by_cases he : getE bs at_ ≠ 0
  · have e1 : gotE bs at_ 0 = getE bs at_ := by simp only [gotE]; rw [if_pos he]
    refine (rgot_err v bs at_ w h he).mono fun e w' ⟨h5, h6⟩ => ⟨?_, h6⟩
    rw [h5, rgotR, e1, if_neg he]
  · have h0 : ¬ at_ < 0 ∧ ¬ (bs.length : Int) < at_ ∧ ¬ (bs.length : Int) - at_ < 4 := by
      have he' : getE bs at_ = 0 := by omega
      unfold getE at he'
      split at he'
      · omega
      · split at he' <;> omega
    obtain ⟨k, rfl⟩ := Int.eq_ofNat_of_zero_le (show 0 ≤ at_ by omega)
    obtain ⟨l0, l1⟩ := leV_nonneg bs k
    have hk : (k : Int).toNat = k := Int.toNat_natCast k
    obtain ⟨n, hn⟩ := Int.eq_ofNat_of_zero_le l0
    have hn' : (leV bs k).toNat = n := by omega
    by_cases hb : 4096 < n
    · have e1 : gotE bs k 0 = 4 := by
        simp only [gotE, hk]
        rw [if_neg he, if_neg (by omega), if_pos (by omega)]
      refine (rgot_big v bs k n w h (by omega) hn hb).mono fun e w' ⟨h5, h6⟩ => ⟨?_, h6⟩
      rw [h5, rgotR, e1]; rfl
    · by_cases hc : bs.length < k + 4 + fillN n
      · have e1 : gotE bs k 0 = 2 := by
          simp only [gotE, hk, hn']
          rw [if_neg he, if_neg (by omega), if_neg (by omega), if_pos hc]
        refine (rgot_cut v bs k n w h (by omega) hn (by omega) hc).mono fun e w' ⟨h5, h6⟩ => ⟨?_, h6⟩
        rw [h5, rgotR, e1]; rfl
      · refine (rgot_rest v bs k n w h (by omega) hn (by omega) (by omega)).mono fun e w' ⟨h5, h6⟩ => ⟨?_, h6⟩
        have hz := zeros_iff bs (k + 4 + n) (fillN n - n) (by have := fillN_ge n; omega)
        rcases h5 with ⟨h5, h7⟩ | ⟨⟨j, hj, hne⟩, h7⟩
        · have e1 : gotE bs k 0 = 0 := by
            simp only [gotE, hk, hn']
            rw [if_neg he, if_neg (by omega), if_neg (by omega), if_neg hc, if_pos (hz.1 h5)]
          rw [h7, rgotR, e1]
          simp only [gotS, gotN, hk, hn']
          rfl
        · have e1 : gotE bs k 0 = 3 := by
            simp only [gotE, hk, hn']
            rw [if_neg he, if_neg (by omega), if_neg (by omega), if_neg hc, if_neg (fun h => hne (hz.2 h j hj))]
          rw [h7, rgotR, e1]; rfl
set_option maxHeartbeats 400000 in
theorem rgetList_any (v : Value) (bs : List UInt8) (at_ : Int) (w : World) (h : Sl w w.heap.size v (bv bs)) :
    Calls Tryd.prog 27 #[v, .int .i64 at_] w fun e w' => e = .returned (rgotR bs at_) ∧ Below w.heap.size w w' := by
  have hform : ∃ s n k, rgotR bs at_ = .tuple #[.string s, .int .i64 n, .int .i64 k] := by
    unfold rgotR; split
    · exact ⟨_, _, _, rfl⟩
    · exact ⟨_, _, _, rfl⟩
  obtain ⟨s, n, k, hf⟩ := hform
  have HF := Lib.hid hf
  clear hf
  go_enter Tryd.func27, Tryd.ntmps27
  go_wp2_with fail
  refine (rgets_any v bs at_ w h).mono ?_
  rintro e w1 ⟨rfl, hb1⟩
  rw [HF.out]
  go_wp2
  refine bodyPost_ret (results_tmp3 rfl _ _ _) rfl ?_
  rw [HF.out]
  exact ⟨rfl, hb1⟩
end Go.Proofs.YtnaagmjjnapklaaDoor
