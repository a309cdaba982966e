/- The walk over tableaulaw10.MemoryKeeps. -/
import Derived.Test.YtagjmkgbfbaekaaDoorMemA
import Derived.Test.YtagjmkgbfbaekaaDoorKind
namespace Go.Proofs.YtagjmkgbfbaekaaDoor
open Go.RowKit
set_option maxRecDepth 100000

def oneE (k : Int) (b : Nat) (bs : List UInt8) : List Ent := [(k, b, bs)]
theorem putE (k : Int) (b b' : Nat) (bs bs' : List UInt8) : put (oneE k b bs) k (b', bs') = oneE k b' bs' := by simp [put, oneE]
theorem putE0 (k : Int) (b : Nat) (bs : List UInt8) : put [] k (b, bs) = oneE k b bs := rfl
theorem oldE (k : Int) (b : Nat) (bs : List UInt8) : old (oneE k b bs) k = bs := by simp [old, has, look, oneE]
theorem lookE (k : Int) (b : Nat) (bs : List UInt8) : look (oneE k b bs) k = some (0, b, bs) := by simp [look, oneE]
theorem lookE_ne (k q : Int) (b : Nat) (bs : List UInt8) (h : q ≠ k) : look (oneE k b bs) q = none := by simp [look, oneE, h]
theorem smallE (k : Int) (b : Nat) (bs : List UInt8) (h : bs.length ≤ 65536) : Small (oneE k b bs) := by intro x hx; simp [oneE] at hx; subst hx; exact h
theorem sizeE (k : Int) (b : Nat) (bs : List UInt8) : sizeM (oneE k b bs) k = bs.length := by simp [sizeM, has, look, oneE]
theorem readE (k a n : Int) (b : Nat) (bs : List UInt8) : readOk (oneE k b bs) k a n = decide (0 ≤ n ∧ 0 ≤ a ∧ a ≤ (bs.length : Int) - n) := by simp [readOk, has, look, oneE]

/-- What is written, and then cut or grown. -/
def fin (k n : Nat) (bs : List UInt8) : List UInt8 := setB (over (List.replicate 1000 0) k bs) n
theorem fin_length (k n : Nat) (bs : List UInt8) : (fin k n bs).length = n := setB_length _ _
theorem get_setB (l : List UInt8) (n i : Nat) (hi : i < n) : ((setB l n)[i]?).getD 0 = (l[i]?).getD 0 := by
  unfold setB over
  simp only [List.take_zero, List.nil_append, Nat.zero_add]
  rcases Nat.lt_or_ge i (l.take n).length with h | h
  · rw [List.getElem?_append_left h, List.getElem?_take_of_lt hi]
  · have hl : l.length ≤ i := by rw [List.length_take] at h; omega
    rw [List.getElem?_append_right h, List.getElem?_eq_none hl]
    simp only [List.getElem?_drop, List.getElem?_replicate]
    split <;> rfl
theorem get_over (l ys : List UInt8) (k i : Nat) (hk : k + ys.length ≤ l.length) : ((over l k ys)[i]?).getD 0 = if k ≤ i ∧ i < k + ys.length then (ys[i - k]?).getD 0 else (l[i]?).getD 0 := by
  unfold over
  have hl : (l.take k).length = k := by rw [List.length_take]; omega
  rcases Nat.lt_or_ge i k with h | h
  · rw [if_neg (by omega), List.getElem?_append_left (by omega), List.getElem?_take_of_lt h]
  · rw [List.getElem?_append_right (by omega), hl]
    rcases Nat.lt_or_ge i (k + ys.length) with h2 | h2
    · rw [if_pos ⟨h, h2⟩, List.getElem?_append_left (by omega)]
    · rw [if_neg (by omega), List.getElem?_append_right (by omega), List.getElem?_drop]
      rw [show k + ys.length + (i - k - ys.length) = i by omega]
theorem fin_at (k n i : Nat) (bs : List UInt8) (hi : i < n) (hk : k + bs.length ≤ 1000) : byteAt (fin k n bs) i = if k ≤ i ∧ i < k + bs.length then byteAt bs (i - k) else 0 := by
  have h1 := get_setB (over (List.replicate 1000 0) k bs) n i hi
  have h2 := get_over (List.replicate 1000 0) bs k i (by simpa using hk)
  unfold byteAt fin
  rw [h1, h2]
  split
  · rfl
  · simp only [List.getElem?_replicate]
    split <;> rfl

set_option maxHeartbeats 6400000 in
theorem mkeeps_walk (A : Nat → Addr) (v : Value) (bs : List UInt8) (at_ sz : Int) (w : World) (hE : Errs w w.heap.size allErrs A) (hv : Sl w w.heap.size v (bv bs) ∧ bs.length ≤ 140737488351232) (_ : (Lit.int .i64 at_).wf = true) (_ : (Lit.int .i64 sz).wf = true) :
    Calls Tryd.prog 6 #[v, .int .i64 at_, .int .i64 sz] w fun e w' => e = .returned (.bool true) ∧ Below w.heap.size w w' := by
  have HE := Lib.hid hE
  obtain ⟨hv, _⟩ := hv
  have HV := Lib.hid hv
  obtain ⟨_, VA, vc, rfl, hvc, hvm, _, hvx⟩ := hv
  rw [bv_length] at hvc hvx HV ⊢
  obtain ⟨q, hq⟩ : ∃ n, n = bs.length := ⟨_, rfl⟩
  have HVX : Hid (∀ i, i < q → ∃ xb xo, VA = some ⟨xb, xo, none⟩ ∧ xb < w.heap.size ∧ w.cell? ⟨xb, xo + i, none⟩ = some (.int .u8 (byteAt bs i))) := fun i hi => by
    obtain ⟨xb, xo, h1, h2, h3⟩ := hvx (by omega)
    exact ⟨xb, xo, h1, h2, h3 i _ (bv_at bs i (by omega))⟩
  rw [← hq] at hvc HV ⊢
  unfold maxLen at hvm
  have HQ := Lib.hid hq
  clear hE hq hvx
  by_cases hl : 500 < q
  · have hd : decide (500 < (q : Int)) = true := by simp; omega
    go_enter Tryd.func6, Tryd.ntmps6
    go_wp2_with fail
    refine (mawake_any w).mono ?_
    rintro e w1 ⟨rfl, hb1⟩
    go_wp2
    go_ret
    exact ⟨rfl, hb1⟩
  · have hd : decide (500 < (q : Int)) = false := by simp; omega
    obtain ⟨k, hk⟩ : ∃ k : Nat, at_ % 500 = k := ⟨(at_ % 500).toNat, by omega⟩
    obtain ⟨n, hn⟩ : ∃ k : Nat, sz % 2000 = k := ⟨(sz % 2000).toNat, by omega⟩
    have hk5 : k < 500 := by omega
    have hn2 : n < 2000 := by omega
    have P1 : Hid (Calls Tryd.prog 19 #[.int .i64 at_, .int .i64 500] w fun e w' => e = .returned (.int .i64 (k : Int)) ∧ w = w') := by have := place_any at_ 500 w (by omega) (by omega); rwa [hk] at this
    have P2 : Hid (Calls Tryd.prog 19 #[.int .i64 sz, .int .i64 2000] w fun e w' => e = .returned (.int .i64 (n : Int)) ∧ w = w') := by have := place_any sz 2000 w (by omega) (by omega); rwa [hn] at this
    have HF : Hid (∀ i, i < n → byteAt (fin k n bs) i = if k ≤ i ∧ i < k + q then byteAt bs (i - k) else 0) := fun i hi => by rw [fin_at k n i bs hi (by rw [← HQ.out]; omega), ← HQ.out]
    have HFL := Lib.hid (fin_length k n bs)
    have hq5 : q ≤ 500 := by omega
    clear hk hn hl
    go_enter Tryd.func6, Tryd.ntmps6
    go_wp2_with fail
    refine P1.out.mono ?_
    rintro e w' ⟨rfl, rfl⟩
    go_wp2_with fail
    refine P2.out.mono ?_
    rintro e w' ⟨rfl, rfl⟩
    go_wp2_with fail
    refine (mnew_any w).mono ?_
    rintro e w1 ⟨rfl, hm1, hb1⟩
    obtain ⟨g, hg⟩ : ∃ g, g = w.heap.size + 1 := ⟨_, rfl⟩
    obtain ⟨m, hm⟩ : ∃ g, g = w.heap.size := ⟨_, rfl⟩
    rw [← hg] at hm1 ⊢
    have HM1 : Hid (MemIs w1 w.heap.size g m []) := by rw [hm]; exact hm1
    have HB1 := Lib.hid hb1
    clear hm1 hb1 hg hm P1 P2
    go_wp2_with fail
    refine (mset_ok w.heap.size g m [] 3 1000 w1 HM1.out small_nil (by omega) (by omega) (by omega) (by omega) HB1.out.size).mono ?_
    rintro e w2 ⟨rfl, hm2, hst2⟩
    obtain ⟨b0, hb0⟩ : ∃ b, b = w1.heap.size := ⟨_, rfl⟩
    have HB2 := Lib.hid (hst2.below HM1.out HB1.out HB1.out.size)
    have e1 : put [] 3 (w1.heap.size, setB (old [] 3) (1000 : Int).toNat) = oneE 3 b0 (List.replicate 1000 0) := by rw [hb0]; rfl
    rw [e1] at hm2
    have HM2 := Lib.hid hm2
    clear hm2 hst2 e1 hb0
    go_wp2_with fail
    have hs2 := (HV.out.below HB2.out).more HB2.out.size
    obtain ⟨z, hz⟩ : ∃ z, z = over (List.replicate 1000 0) k bs := ⟨_, rfl⟩
    have hzl : z.length = 1000 := by rw [hz, over_length _ _ _ (by rw [List.length_replicate, ← HQ.out]; omega), List.length_replicate]
    refine (mwrite_okI w.heap.size g m _ 3 k k rfl _ bs w2 HM2.out (smallE _ _ _ (by simp)) hs2 (lookE _ _ _) (by rw [List.length_replicate, ← HQ.out]; omega)).mono ?_
    rintro e w3 ⟨rfl, hm3, hst3⟩
    rw [putE, ← hz] at hm3
    have HM3 := Lib.hid hm3
    have HB3 := Lib.hid (hst3.below HM2.out HB2.out HB2.out.size)
    have HZL := Lib.hid hzl
    have HZ : Hid (setB z n = fin k n bs) := by rw [hz]; rfl
    clear hm3 hst3 hz hzl hs2
    go_wp2_with fail
    refine (mset_ok w.heap.size g m _ 3 n w3 HM3.out (smallE _ _ _ (by rw [HZL.out]; omega)) (by omega) (by omega) (by omega) (by omega) HB3.out.size).mono ?_
    rintro e w4 ⟨rfl, hm4, hst4⟩
    obtain ⟨b1, hb1⟩ : ∃ b, b = w3.heap.size := ⟨_, rfl⟩
    rw [oldE, putE, Int.toNat_natCast, HZ.out, ← hb1] at hm4
    have HB4 := Lib.hid (hst4.below HM3.out HB3.out HB3.out.size)
    obtain ⟨f, hf⟩ : ∃ f, f = fin k n bs := ⟨_, rfl⟩
    rw [← hf] at hm4 HF HFL
    have HM4 := Lib.hid hm4
    have HSM : Hid (Small (oneE 3 b1 f)) := smallE _ _ _ (by rw [HFL.out]; omega)
    clear hm4 hst4 hb1 hf HM1 HM2 HM3 HB1 HB2 HB3 HZ HZL
    have S1 : Hid (∀ W, MemIs W w.heap.size g m (oneE 3 b1 f) → Calls Tryd.prog 18 #[.pointer (some ⟨g, 0, none⟩), .int .i64 3] W fun e w' => e = .returned (.int .i64 (n : Int)) ∧ W = w') := fun W hW => by
      have := msize_any w.heap.size g m _ 3 W hW
      rwa [sizeE, HFL.out] at this
    go_wp2_with fail
    refine (S1.out _ HM4.out).mono ?_
    rintro e w' ⟨rfl, rfl⟩
    go_wp2_with fail
    refine (mread_okI w.heap.size g m _ 3 0 0 rfl n n rfl w4 HM4.out HSM.out (lookE _ _ _) (by rw [HFL.out]; omega)).mono ?_
    rintro e w5 ⟨rfl, hall, hb5⟩
    have hfa : readB f 0 n = f := by
      have := HFL.out
      unfold readB
      rw [List.drop_zero, List.take_of_length_le (by omega)]
    rw [hfa] at hall
    obtain ⟨a, ha⟩ : ∃ a, a = w4.heap.size := ⟨_, rfl⟩
    rw [← ha] at hall ⊢
    have HAL := Lib.hid hall
    have HM5 := Lib.hid (HM4.out.below hb5)
    have HB5 := Lib.hid (HB4.out.trans (hb5.mono HB4.out.size))
    have hxc : ∀ i, i < q → ∃ xb xo, VA = some ⟨xb, xo, none⟩ ∧ w5.cell? ⟨xb, xo + i, none⟩ = some (.int .u8 (byteAt bs i)) := fun i hi => by
      obtain ⟨xb, xo, h1, h2, h3⟩ := HVX.out i hi
      exact ⟨xb, xo, h1, (HB5.out.cell (p := ⟨xb, xo + i, none⟩) h2).trans h3⟩
    have HXC := Lib.hid hxc
    clear hall hb5 ha hfa hxc HM4 HB4
    go_wp2_with fail
    go_loop [12] (fun i => ∃ j : Nat, j ≤ n ∧ i = .int .i64 j) (fun i => n - (intOf i).toNat)
    case atStart => exact ⟨0, Nat.zero_le _, rfl⟩
    case round =>
      obtain ⟨i, hi, rfl⟩ := hrel
      by_cases hlt : i < n
      · have hfi := HF.out i hlt
        have hci : w5.cell? ⟨a, i, none⟩ = some (.int .u8 (byteAt f i)) := by
          rw [HAL.out.cell]
          simpa using bv_at f i (by rw [HFL.out]; exact hlt)
        rcases Nat.lt_or_ge i k with h1 | h1
        · rw [if_neg (by omega)] at hfi
          rw [hfi] at hci
          have d : decide ((k : Int) ≤ (i : Int)) = false := by simp; omega
          clear hfi
          go_wp2_with fail
          go_round
          case rel => exact ⟨i + 1, by omega, by go_num⟩
          case measure => simp [intOf]; omega
        · have d : decide ((k : Int) ≤ (i : Int)) = true := by simp; omega
          rcases Nat.lt_or_ge i (k + q) with h2 | h2
          · rw [if_pos ⟨h1, h2⟩] at hfi
            obtain ⟨xb, xo, rfl, hx⟩ := HXC.out (i - k) (by omega)
            obtain ⟨y, hy⟩ : ∃ y, y = byteAt bs (i - k) := ⟨_, rfl⟩
            rw [hfi, ← hy] at hci
            rw [← hy] at hx
            have hx' : w5.cell? ⟨xb, xo + ((i : Int) - (k : Int)).toNat, none⟩ = some (.int .u8 y) := by rw [show ((i : Int) - (k : Int)).toNat = i - k by omega]; exact hx
            have d2 : decide ((i : Int) < (k : Int) + (q : Int)) = true := by simp; omega
            clear hfi hy
            go_wp2_with fail
            go_round
            case rel => exact ⟨i + 1, by omega, by go_num⟩
            case measure => simp [intOf]; omega
          · rw [if_neg (by omega)] at hfi
            rw [hfi] at hci
            have d2 : decide ((i : Int) < (k : Int) + (q : Int)) = false := by simp; omega
            clear hfi
            go_wp2_with fail
            go_round
            case rel => exact ⟨i + 1, by omega, by go_num⟩
            case measure => simp [intOf]; omega
      · obtain rfl : i = n := by omega
        clear HXC HF HAL HVX
        go_wp2_with fail
        refine (mread_no w.heap.size g m _ 3 0 ((i : Int) + 1) w5 HM5.out HSM.out (by omega) (by rw [readE, HFL.out]; simp; omega)).mono ?_
        rintro e w' ⟨rfl, rfl⟩
        go_wp2_with fail
        have hsl := lits_sl (w := w5) (cs := #[.int .u8 1]) (f := (0, 0)) 1 [1] rfl (by omega) rfl
        have HM6 := Lib.hid (HM5.out.below ((Below.refl w5.heap.size w5).alloc (Nat.le_refl _) (.cells #[.int .u8 1] 5)))
        have HB6 := Lib.hid (HB5.out.alloc HB5.out.size (.cells #[.int .u8 1] 5))
        generalize (w5.alloc (Obj.cells _ _)) = w6 at hsl HM6 HB6 ⊢
        refine (mwrite_far A allErrs (mem_all 8 (by omega) (by omega)) w.heap.size g m _ 3 i _ [1] w6 HM6.out HSM.out (HE.out.to HB6.out HB6.out.size) hsl (by simp) (lookE _ _ _) (.inr (by rw [HFL.out]; simp; omega))).mono ?_
        rintro e w' ⟨rfl, rfl⟩
        clear hsl
        go_wp2_with fail
        refine (kind_any A 8 (by omega) _ (HE.out.to HB6.out HB6.out.size)).mono ?_
        rintro e w7 ⟨rfl, hb⟩
        have HB7 := Lib.hid (HB6.out.trans (hb.mono HB6.out.size))
        have HM7 := Lib.hid (HM6.out.below hb)
        clear hb
        go_wp2_with fail
        refine (mwrite_none A allErrs (mem_all 9 (by omega) (by omega)) w.heap.size g m _ 4 0 _ w7 HM7.out (HE.out.to HB7.out HB7.out.size) (lookE_ne _ _ _ _ (by omega))).mono ?_
        rintro e w' ⟨rfl, rfl⟩
        go_wp2_with fail
        refine (kind_any A 9 (by omega) _ (HE.out.to HB7.out HB7.out.size)).mono ?_
        rintro e w8 ⟨rfl, hb⟩
        have HB8 := Lib.hid (HB7.out.trans (hb.mono HB7.out.size))
        have HM8 := Lib.hid (HM7.out.below hb)
        clear hb
        go_wp2_with fail
        refine (mset_bad A allErrs (mem_all 1 (by omega) (by omega)) 0 5 _ w8 (HE.out.to HB8.out HB8.out.size) (by omega)).mono ?_
        rintro e w' ⟨rfl, rfl⟩
        go_wp2_with fail
        refine (kind_any A 1 (by omega) _ (HE.out.to HB8.out HB8.out.size)).mono ?_
        rintro e w9 ⟨rfl, hb⟩
        have HB9 := Lib.hid (HB8.out.trans (hb.mono HB8.out.size))
        have HM9 := Lib.hid (HM8.out.below hb)
        clear hb
        go_wp2_with fail
        refine (mset_bad A allErrs (mem_all 1 (by omega) (by omega)) 1 65537 _ w9 (HE.out.to HB9.out HB9.out.size) (by omega)).mono ?_
        rintro e w' ⟨rfl, rfl⟩
        go_wp2_with fail
        refine (kind_any A 1 (by omega) _ (HE.out.to HB9.out HB9.out.size)).mono ?_
        rintro e w10 ⟨rfl, hb⟩
        have HB10 := Lib.hid (HB9.out.trans (hb.mono HB9.out.size))
        have HM10 := Lib.hid (HM9.out.below hb)
        clear hb
        go_wp2_with fail
        refine (mawake_any w10).mono ?_
        rintro e w11 ⟨rfl, hb⟩
        go_wp2
        go_ret
        exact ⟨rfl, HB10.out.trans (hb.mono HB10.out.size)⟩
end Go.Proofs.YtagjmkgbfbaekaaDoor
