/- The walk over tableaulaw25.QueueRooms. -/
import Derived.Test.YtagjmkgbfbaekaaDoorQueueL
import Derived.Test.YtagjmkgbfbaekaaDoorPl
namespace Go.Proofs.YtagjmkgbfbaekaaDoor
open Go.RowKit

theorem sl_zeros {w0 w : World} {n : Nat} {v : Value} (h : w.ownsRow w0.heap.size 5 1 v n (madeCells (Value.int .u8 0).cells (n * 1)).toList) : Sl w w.heap.size v (bv (List.replicate n 0)) := by
  rw [made_zero] at h
  exact Sl.of_own h

set_option maxRecDepth 100000 in
set_option maxHeartbeats 1600000 in
theorem rooms_walk (A : Nat → Addr) (n k : Int) (w : World) (hE : Errs w w.heap.size allErrs A) (_ : (Lit.int .i64 n).wf = true) (_ : (Lit.int .i64 k).wf = true) :
    Calls Tryd.prog 8 #[.int .i64 n, .int .i64 k] w fun e w' => e = .returned (.bool true) ∧ Below w.heap.size w w' := by
  obtain ⟨i, hi, hz, hs1, hby⟩ := info_parts Tryd.infoU8
  have HE := Lib.hid hE
  clear hE
  obtain ⟨m, hm⟩ : ∃ m : Nat, (m : Int) = n % 200 := ⟨(n % 200).toNat, by omega⟩
  have hm2 : m < 200 := by omega
  obtain ⟨t, ht⟩ : ∃ t : Nat, (t : Int) = k % ((m : Int) + 1) := ⟨(k % ((m : Int) + 1)).toNat, by have := Int.emod_nonneg k (b := (m : Int) + 1) (by omega); omega⟩
  have ht2 : t ≤ m := by have := Int.emod_lt_of_pos k (b := (m : Int) + 1) (by omega); omega
  have HM := Lib.hid hm
  have HT := Lib.hid ht
  clear hm ht
  have hmx : Hid (max 0 (min (m : Int) 16384) = m) := by show _ = _; omega
  go_enter Tryd.func8, Tryd.ntmps8
  go_wp2_with fail
  refine (place_any n 200 w (by omega) (by omega)).mono ?_
  rintro e w0 ⟨rfl, rfl⟩
  rw [← HM.out]
  go_wp2_with fail
  refine (place_any k (m + 1) w (by omega) (by omega)).mono ?_
  rintro e w0 ⟨rfl, rfl⟩
  rw [← HT.out]
  go_wp2_with fail
  refine (qnew_any m w).mono ?_
  rintro e w1 ⟨rfl, hq1, hb1⟩
  rw [hmx.out] at hq1
  have HQ1 := Lib.hid hq1
  have hs1' := hb1.size
  clear hq1
  obtain ⟨w2, hmk2, hown2, hgrow2⟩ := run_make_full (P := Tryd.prog) (w := w1) w1.heap.size 31 5 i (.int .u8 0) 1 Tryd.underlying31 hi hz hs1 .i64 .i64 m (by rw [hby]; omega) (by unfold maxLen; omega) (Nat.le_refl _)
  have HO2 := Lib.hid hown2
  have HG2 := Lib.hid hgrow2
  clear hown2 hgrow2
  go_wp2_with fail
  clear hmk2
  have hown2 := HO2.out
  have hgrow2 := HG2.out
  have hb2 := hb1.grown hgrow2 hs1' (fun j hj => by cases hj)
  have HQ2 := Lib.hid (HQ1.out.below ((Below.refl _ _).grown hgrow2 (Nat.le_refl _) (fun j hj => by cases hj)))
  have HV2 := Lib.hid (sl_zeros hown2)
  clear hown2 hgrow2 hb1 hs1'
  refine (qput_ok A w.heap.size m [] _ (List.replicate m 0) w2 (HE.out.to hb2 hb2.size) HV2.out (by simp) (by omega) (by omega) (by simp; omega) HQ2.out (by simp)).mono ?_
  rintro e w3 ⟨rfl, hq3, hg3⟩
  have hb3 := below_of_only hb2 hg3 hb2.size (Nat.le_refl _)
  have HQ3 := Lib.hid hq3
  clear hb2 hg3 hq3
  go_wp2_with fail
  refine (qlen_any w.heap.size m _ false w3 HQ3.out).mono ?_
  rintro e w0 ⟨rfl, rfl⟩
  have hl3 : ([] ++ List.replicate m 0 : List UInt8).length = m := by simp
  rw [hl3]
  go_wp2_with fail
  refine (qtake_any w.heap.size m _ false t w3 HQ3.out (by simp; omega)).mono ?_
  rintro e w4 ⟨v4, rfl, hsl4, hoff4, hq4, hg4⟩
  have hb4 := below_of_only hb3 hg4 hb3.size (Nat.le_refl _)
  obtain ⟨hlen4, A4, c4, hv4, hc4, _, _, _⟩ := hsl4
  have hl4 : (bv (([] ++ List.replicate m 0 : List UInt8).take (t : Int).toNat)).length = t := by rw [bv_length]; simp; omega
  rw [hl4] at hv4 hc4
  subst hv4
  have HQ4 := Lib.hid hq4
  clear hlen4 hl4 hoff4 hg4 hq4 hb3 hl3
  obtain ⟨w5, hmk5, hown5, hgrow5⟩ := run_make_full (P := Tryd.prog) (w := w4) w4.heap.size 31 5 i (.int .u8 0) 1 Tryd.underlying31 hi hz hs1 .i64 .i64 t (by rw [hby]; omega) (by unfold maxLen; omega) (Nat.le_refl _)
  have HO5 := Lib.hid hown5
  have HG5 := Lib.hid hgrow5
  clear hown5 hgrow5
  go_wp2_with fail
  clear hmk5
  have hown5 := HO5.out
  have hgrow5 := HG5.out
  have hb5 := hb4.grown hgrow5 hb4.size (fun j hj => by cases hj)
  have HQ5 := Lib.hid (HQ4.out.below ((Below.refl _ _).grown hgrow5 (Nat.le_refl _) (fun j hj => by cases hj)))
  have HV5 := Lib.hid (sl_zeros hown5)
  clear hown5 hgrow5 hb4
  have hl5 : ((([] ++ List.replicate m 0 : List UInt8)).drop (t : Int).toNat).length = m - t := by simp
  refine (qput_ok A w.heap.size m _ _ (List.replicate t 0) w5 (HE.out.to hb5 hb5.size) HV5.out (by rw [hl5]; omega) (by omega) (by omega) (by simp; omega) HQ5.out (by rw [hl5, List.length_replicate]; omega)).mono ?_
  rintro e w6 ⟨rfl, hq6, hg6⟩
  have hb6 := below_of_only hb5 hg6 hb5.size (Nat.le_refl _)
  obtain ⟨bs6, hbs6⟩ : ∃ l, l = (([] ++ List.replicate m 0 : List UInt8)).drop (t : Int).toNat ++ List.replicate t 0 := ⟨_, rfl⟩
  have hl6 : bs6.length = m := by rw [hbs6, List.length_append, hl5, List.length_replicate]; omega
  rw [← hbs6] at hq6
  have HQ6 := Lib.hid hq6
  clear hb5 hg6 hq6 hbs6 hl5
  have HL6 := Lib.hid hl6
  clear hl6
  go_wp2_with fail
  refine (qlen_any w.heap.size m _ false w6 HQ6.out).mono ?_
  rintro e w0 ⟨rfl, rfl⟩
  rw [HL6.out]
  go_wp2_with fail
  refine (qclosed_any w.heap.size m _ false w6 HQ6.out).mono ?_
  rintro e w0 ⟨rfl, rfl⟩
  go_wp2_with fail
  have hb7 : Below w.heap.size w (w6.alloc (.cells (bv [1]).toArray 5)) := hb6.alloc hb6.size _
  refine (qput_full A w.heap.size m bs6 _ [1] _ (HE.out.to hb7 hb7.size) (lit_sl w6 5 [1] 1 rfl (by omega)) (by rw [HL6.out]; omega) (by omega) (by omega) (by simp) (HQ6.out.alloc _) (by rw [HL6.out]; simp only [List.length_cons, List.length_nil]; omega)).mono ?_
  rintro e w8 ⟨rfl, hq8, hg8⟩
  have hb8 := below_of_only hb7 hg8 hb7.size (Nat.le_refl _)
  have HQ8 := Lib.hid hq8
  clear hb7 hg8 hq8 hb6
  go_wp2_with fail
  refine (qclosed_any w.heap.size m _ true w8 HQ8.out).mono ?_
  rintro e w0 ⟨rfl, rfl⟩
  go_wp2_with fail
  refine (qlen_any w.heap.size m _ true w8 HQ8.out).mono ?_
  rintro e w0 ⟨rfl, rfl⟩
  rw [HL6.out]
  go_wp2_with fail
  refine (qput_gone A w.heap.size m bs6 _ [] w8 (HE.out.to hb8 hb8.size) (Sl.nil_ _ _) (by rw [HL6.out]; omega) (by omega) (by omega) (by simp) HQ8.out).mono ?_
  rintro e w9 ⟨rfl, hq9, hg9⟩
  have hb9 := below_of_only hb8 hg9 hb8.size (Nat.le_refl _)
  have HQ9 := Lib.hid hq9
  clear hb8 hg9 hq9
  go_wp2_with fail
  refine (qtake_any w.heap.size m bs6 true ((m : Int) + 9) w9 HQ9.out (by rw [HL6.out]; omega)).mono ?_
  rintro e w10 ⟨v10, rfl, hsl10, hoff10, hq10, hg10⟩
  have hb10 := below_of_only hb9 hg10 hb9.size (Nat.le_refl _)
  obtain ⟨_, A10, c10, hv10, hc10, _, _, _⟩ := hsl10
  have hl10 : (bv (bs6.take ((m : Int) + 9).toNat)).length = m := by rw [bv_length, List.length_take, HL6.out]; omega
  rw [hl10] at hv10 hc10
  subst hv10
  have hd10 : bs6.drop ((m : Int) + 9).toNat = [] := List.drop_eq_nil_of_le (by rw [HL6.out]; omega)
  rw [hd10] at hq10
  have HQ10 := Lib.hid hq10
  clear hl10 hd10 hoff10 hg10 hq10 hb9
  go_wp2_with fail
  refine (qlen_any w.heap.size m _ true w10 HQ10.out).mono ?_
  rintro e w0 ⟨rfl, rfl⟩
  go_wp2_with fail
  refine (qtake_any w.heap.size m [] true (-5) w10 HQ10.out (by simp)).mono ?_
  rintro e w11 ⟨v11, rfl, hsl11, hoff11, hq11, hg11⟩
  have hb11 := below_of_only hb10 hg11 hb10.size (Nat.le_refl _)
  obtain ⟨_, A11, c11, hv11, _, _, _, _⟩ := hsl11
  have hl11 : (bv (([] : List UInt8).take (-5 : Int).toNat)).length = 0 := rfl
  rw [hl11] at hv11
  subst hv11
  clear hl11 hoff11 hg11 hq11 hb10
  go_wp2_with fail
  refine (qawake_any A w11 (HE.out.to hb11 hb11.size)).mono ?_
  rintro e w12 ⟨rfl, hb12⟩
  have hb13 : Below w.heap.size w w12 := hb11.trans (hb12.mono hb11.size)
  go_wp2
  go_ret
  exact ⟨rfl, hb13⟩
end Go.Proofs.YtagjmkgbfbaekaaDoor
