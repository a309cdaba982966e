/- The walk over tableaulaw25.QueueOrder: what was put is what was taken and what is left. -/
import Derived.Test.YtagjmkgbfbaekaaDoorQueueL
import Derived.Test.YtagjmkgbfbaekaaDoorPl
import Derived.Test.YtagjmkgbfbaekaaDoorOpen2
namespace Go.Proofs.YtagjmkgbfbaekaaDoor
open Go.RowKit

theorem strB_append (a b : List UInt8) : strB a ++ strB b = strB (a ++ b) := by
  apply ByteArray.ext
  simp [strB]
/-- What holds at the head of a round: what went in is what came out and what is left. -/
def OrdRel (g n : Nat) (B : Nat) (w : World) (a b c d : Value) (wr : World) : Prop :=
  ∃ (i : Nat) (O bs : List UInt8) (cl : Bool), a = .string (strB (O ++ bs)) ∧ b = .string (strB O) ∧ c = .bool cl ∧ d = .int .i64 i ∧ i ≤ 40 ∧ bs.length ≤ n ∧ (O ++ bs).length ≤ 200 * i ∧ QIs wr g n bs cl ∧ Below B w wr

set_option maxRecDepth 100000 in
set_option maxHeartbeats 6400000 in
theorem order_walk (A : Nat → Addr) (most : Int) (lv : Value) (x : Nat × (Nat → Value) × (Nat → List UInt8)) (tv : Value) (zs : List Int) (w : World) (hE : Errs w w.heap.size allErrs A) (_ : (Lit.int .i64 most).wf = true)
    (hL : SlB w w.heap.size lv x.1 x.2.1 x.2.2) (hT : Sl w w.heap.size tv (zs.map (Value.int .i64)) ∧ (∀ n ∈ zs, (Lit.int .i64 n).wf = true) ∧ zs.length * 8 ≤ 140737488351232) :
    Calls Tryd.prog 7 #[.int .i64 most, lv, tv] w fun e w' => e = .returned (.bool true) ∧ Below w.heap.size w w' := by
  obtain ⟨ln, V, ls⟩ := x
  have HE := Lib.hid hE
  obtain ⟨n, hn⟩ : ∃ n : Nat, (n : Int) = most % 300 := ⟨(most % 300).toNat, by omega⟩
  have hn2 : n < 300 := by omega
  have HN := Lib.hid hn
  have hmx : Hid (max 0 (min (n : Int) 16384) = n) := by show _ = _; omega
  obtain ⟨⟨LA, lc, hlv, hlc, hlm, _, hLx⟩, hLs⟩ := hL
  simp only at hlv hlc hLx hLs
  subst hlv
  obtain ⟨⟨_, TA, tc, htv, htc, htm, _, hTx⟩, hzw, hz8⟩ := hT
  rw [List.length_map] at htv htc hTx
  obtain ⟨tn, htn⟩ : ∃ m, m = zs.length := ⟨_, rfl⟩
  rw [← htn] at htv htc hTx hz8
  subst htv
  have HTN := Lib.hid htn
  have HLX := Lib.hid hLx
  have HLS := Lib.hid hLs
  have HTX := Lib.hid hTx
  unfold maxLen at hlm htm
  clear hE hn hLx hLs hTx hzw htn
  go_enter Tryd.func7, Tryd.ntmps7
  go_wp2_with fail
  refine (place_any most 300 w (by omega) (by omega)).mono ?_
  rintro e w0 ⟨rfl, rfl⟩
  rw [← HN.out]
  go_wp2_with fail
  refine (qnew_any n w).mono ?_
  rintro e w1 ⟨rfl, hq1, hb1⟩
  rw [hmx.out] at hq1
  have HQ1 := Lib.hid hq1
  have HB1 := Lib.hid hb1
  clear hq1 hb1
  go_wp2_with fail
  go_loopw [9, 10, 11, 12] (OrdRel w.heap.size n w.heap.size w) (fun _ _ _ d _ => 40 - (intOf d).toNat)
  case atStart => exact ⟨0, [], [], false, rfl, rfl, rfl, rfl, by omega, by simp, by simp, HQ1.out, HB1.out⟩
  case round =>
    obtain ⟨i, O, bs, cl, rfl, rfl, rfl, rfl, hi40, hbn, hol, hq, hb⟩ := hrel
    have HQ := Lib.hid hq
    have HB := Lib.hid hb
    obtain ⟨sI, hsI⟩ : ∃ s, s = strB (O ++ bs) := ⟨_, rfl⟩
    obtain ⟨sO, hsO⟩ : ∃ s, s = strB O := ⟨_, rfl⟩
    have hszI : sI.size = O.length + bs.length := by rw [hsI, strB_size, List.length_append]
    have hszO : sO.size = O.length := by rw [hsO, strB_size]
    have hol2 : O.length + bs.length ≤ 200 * i := by rw [← List.length_append]; exact hol
    have hI8 : sI.size ≤ 8000 := by omega
    have hO8 : sO.size ≤ 8000 := by omega
    have HSZ := Lib.hid (And.intro hszI hszO)
    rw [← hsI, ← hsO]
    have HSI := Lib.hid hsI
    have HSO := Lib.hid hsO
    clear hq hb hsI hsO hol hszI hszO
    by_cases hlt : i < ln ∧ i < 40
    · obtain ⟨hl1, hl2⟩ := hlt
      obtain ⟨lb, lo, rfl, hlb, hlx⟩ := HLX.out (by omega)
      have hcell := (HB.out.cell (p := ⟨lb, lo + i, none⟩) hlb).trans (by simpa using hlx i 0 hl1 (by omega))
      have hsl := HLS.out i hl1
      obtain ⟨ys, hys⟩ : ∃ ys, ys = ls i := ⟨_, rfl⟩
      obtain ⟨u, hu⟩ : ∃ u, u = V i := ⟨_, rfl⟩
      rw [← hys, ← hu] at hsl
      rw [← hu] at hcell
      have HV := Lib.hid (hsl.below HB.out)
      have HVW := Lib.hid hsl
      obtain ⟨_, UA, uc, huv, huc, hum, _, _⟩ := hsl
      rw [bv_length] at huv huc
      obtain ⟨m, hm⟩ : ∃ m, m = ys.length := ⟨_, rfl⟩
      rw [← hm] at huv huc
      subst huv
      have HM := Lib.hid hm
      have HHL := Lib.hid hlx
      clear hm hu hys hlx
      unfold maxLen at hum
      by_cases h200 : 200 < m
      · have hd1 : decide (200 < (m : Int)) = true := by simp; omega
        go_wp2_with fail
        refine (qawake_any A _ (HE.out.to HB.out HB.out.size)).mono ?_
        rintro e w2 ⟨rfl, hb2⟩
        have HB2 := Lib.hid (HB.out.trans (hb2.mono HB.out.size))
        clear hb2
        go_wp2_with fail
        go_ret
        exact ⟨rfl, HB2.out⟩
      · have hd1 : decide (200 < (m : Int)) = false := by simp; omega
        have hE2 := HE.out.to HB.out HB.out.size
        have HE2 := Lib.hid hE2
        have hV2 := HV.out.more HB.out.size
        have HV2 := Lib.hid hV2
        have hbs := HB.out.size
        have HBS := Lib.hid hbs
        clear hE2 hV2 hbs
        by_cases htk : i < tn
        · obtain ⟨tb, to_, rfl, htb, htx⟩ := HTX.out (by omega)
          have hzi : i < zs.length := by rw [← HTN.out]; exact htk
          obtain ⟨z, hz⟩ : ∃ z, z = zs[i] := ⟨_, rfl⟩
          have htcell := (HB.out.cell (p := ⟨tb, to_ + i, none⟩) htb).trans (htx i (.int .i64 z) (by simp [hzi, hz]))
          obtain ⟨t, ht⟩ : ∃ t : Nat, (t : Int) = z % 100 := ⟨(z % 100).toNat, by omega⟩
          have ht2 : t < 100 := by omega
          have HT := Lib.hid ht
          clear hz htx ht hzi
          rcases cl with _ | _
          · by_cases hr : bs.length + m ≤ n
            · have hfit : decide ((sI.size : Int) - sO.size + m ≤ n) = true := by have := HSZ.out.1; have := HSZ.out.2; simp; omega
              go_wp2_with fail
              refine (qput_ok A w.heap.size n bs _ ys wr HE2.out HV2.out (by omega) (by omega) (by omega) (by rw [← HM.out]; omega) HQ.out (by rw [← HM.out]; omega)).mono ?_
              rintro e w2 ⟨rfl, hq2, hg2⟩
              have hb2 := below_of_only HB.out hg2 HBS.out (Nat.le_refl _)
              have HQ2 := Lib.hid hq2
              have HB2 := Lib.hid hb2
              have hcell2 := hb2.cell (p := ⟨lb, lo + i, none⟩) hlb |>.trans ((HB.out.cell (p := ⟨lb, lo + i, none⟩) hlb).symm.trans hcell)
              have htcell2 := hb2.cell (p := ⟨tb, to_ + i, none⟩) htb |>.trans ((HB.out.cell (p := ⟨tb, to_ + i, none⟩) htb).symm.trans htcell)
              have hV3 : SlN w2 w.heap.size 1 (.slice UA m uc) m (bv ys) := by have := HVW.out.below hb2; unfold Sl at this; rwa [bv_length, ← HM.out] at this
              obtain ⟨sY, hsY⟩ : ∃ s, s = strB ys := ⟨_, rfl⟩
              have hcv : (convert 31 9 (.slice UA m uc)).run Tryd.prog w2 = .ok (.string sY) w2 := by rw [hsY]; exact conv_str Tryd.underlying31 Tryd.underlying5 Tryd.underlying9 hV3
              have hY8 : sY.size ≤ 200 := by rw [hsY, strB_size, ← HM.out]; omega
              have HSY := Lib.hid hsY
              clear hV3 hsY
              clear hq2 hg2 hb2 hcell
              clear htcell
              go_wp2_with fail
              have HQP := HQ2
              have HBP := HB2
              have htcellP := htcell2
              refine (place_any z 100 w2 (by omega) (by omega)).mono ?_
              rintro e w0 ⟨rfl, rfl⟩
              rw [← HT.out]
              obtain ⟨BS, hBS⟩ : ∃ l, l = (bs ++ ys) := ⟨_, rfl⟩
              have hBl : BS.length ≤ n := by rw [hBS]; rw [List.length_append, ← HM.out]; omega
              have HBS2 := Lib.hid hBS
              rw [← hBS] at HQP
              clear hBS
              go_wp2_with fail
              refine (qtake_any w.heap.size n BS false t w2 HQP.out (by omega)).mono ?_
              rintro e w4 ⟨v4, rfl, hsl4, hoff4, hq4, hg4⟩
              have hb4 := below_of_only HBP.out hg4 HBP.out.size (Nat.le_refl _)
              have HQ4 := Lib.hid hq4
              have HB4 := Lib.hid hb4
              have htcell4 := hb4.cell (p := ⟨tb, to_ + i, none⟩) htb |>.trans ((HBP.out.cell (p := ⟨tb, to_ + i, none⟩) htb).symm.trans htcellP)
              obtain ⟨m4, hm4⟩ : ∃ k, k = (BS.take (t : Int).toNat).length := ⟨_, rfl⟩
              have hm4t : m4 ≤ t := by rw [hm4, List.length_take]; omega
              have hV4 : SlN w4 w4.heap.size 1 v4 m4 (bv (BS.take (t : Int).toNat)) := by have := hsl4; unfold Sl at this; rwa [bv_length, ← hm4] at this
              obtain ⟨sX, hsX⟩ : ∃ s, s = strB (BS.take (t : Int).toNat) := ⟨_, rfl⟩
              have hcv4 : (convert 31 9 v4).run Tryd.prog w4 = .ok (.string sX) w4 := by rw [hsX]; exact conv_str Tryd.underlying31 Tryd.underlying5 Tryd.underlying9 hV4
              obtain ⟨_, A4, c4, rfl, hc4, _, _, _⟩ := hV4
              have hX8 : sX.size ≤ 100 := by rw [hsX, strB_size, ← hm4]; omega
              have hd4 : decide ((t : Int) < m4) = false := by simp; omega
              have HSX := Lib.hid hsX
              clear hm4 hsX hsl4 hoff4 hq4 hg4 hb4 htcellP
              go_wp2_with fail
              refine (place_any z 100 w4 (by omega) (by omega)).mono ?_
              rintro e w0 ⟨rfl, rfl⟩
              rw [← HT.out]
              go_wp2_with fail
              go_roundw
              case rel =>
                refine ⟨i + 1, O ++ BS.take (t : Int).toNat, BS.drop (t : Int).toNat, false, ?_, ?_, rfl, by go_num, by omega, by rw [List.length_drop]; omega, ?_, HQ4.out, HB4.out⟩
                · rw [List.append_assoc, List.take_append_drop, HBS2.out, HSI.out, HSY.out, strB_append, List.append_assoc]
                · rw [HSO.out, HSX.out, strB_append]
                · rw [List.append_assoc, List.take_append_drop, List.length_append, HBS2.out]; rw [List.length_append, ← HM.out]; omega
              case measure => simp [intOf]; omega
            · have hfit : decide ((sI.size : Int) - sO.size + m ≤ n) = false := by have := HSZ.out.1; have := HSZ.out.2; simp; omega
              go_wp2_with fail
              refine (qput_full A w.heap.size n bs _ ys wr HE2.out HV2.out (by omega) (by omega) (by omega) (by rw [← HM.out]; omega) HQ.out (by rw [← HM.out]; omega)).mono ?_
              rintro e w2 ⟨rfl, hq2, hg2⟩
              have hb2 := below_of_only HB.out hg2 HBS.out (Nat.le_refl _)
              have HQ2 := Lib.hid hq2
              have HB2 := Lib.hid hb2
              have hcell2 := hb2.cell (p := ⟨lb, lo + i, none⟩) hlb |>.trans ((HB.out.cell (p := ⟨lb, lo + i, none⟩) hlb).symm.trans hcell)
              have htcell2 := hb2.cell (p := ⟨tb, to_ + i, none⟩) htb |>.trans ((HB.out.cell (p := ⟨tb, to_ + i, none⟩) htb).symm.trans htcell)
              clear hq2 hg2 hb2 hcell
              clear htcell
              go_wp2_with fail
              have HQP := HQ2
              have HBP := HB2
              have htcellP := htcell2
              refine (place_any z 100 w2 (by omega) (by omega)).mono ?_
              rintro e w0 ⟨rfl, rfl⟩
              rw [← HT.out]
              obtain ⟨BS, hBS⟩ : ∃ l, l = bs := ⟨_, rfl⟩
              have hBl : BS.length ≤ n := by rw [hBS]; omega
              have HBS2 := Lib.hid hBS
              rw [← hBS] at HQP
              clear hBS
              go_wp2_with fail
              refine (qtake_any w.heap.size n BS true t w2 HQP.out (by omega)).mono ?_
              rintro e w4 ⟨v4, rfl, hsl4, hoff4, hq4, hg4⟩
              have hb4 := below_of_only HBP.out hg4 HBP.out.size (Nat.le_refl _)
              have HQ4 := Lib.hid hq4
              have HB4 := Lib.hid hb4
              have htcell4 := hb4.cell (p := ⟨tb, to_ + i, none⟩) htb |>.trans ((HBP.out.cell (p := ⟨tb, to_ + i, none⟩) htb).symm.trans htcellP)
              obtain ⟨m4, hm4⟩ : ∃ k, k = (BS.take (t : Int).toNat).length := ⟨_, rfl⟩
              have hm4t : m4 ≤ t := by rw [hm4, List.length_take]; omega
              have hV4 : SlN w4 w4.heap.size 1 v4 m4 (bv (BS.take (t : Int).toNat)) := by have := hsl4; unfold Sl at this; rwa [bv_length, ← hm4] at this
              obtain ⟨sX, hsX⟩ : ∃ s, s = strB (BS.take (t : Int).toNat) := ⟨_, rfl⟩
              have hcv4 : (convert 31 9 v4).run Tryd.prog w4 = .ok (.string sX) w4 := by rw [hsX]; exact conv_str Tryd.underlying31 Tryd.underlying5 Tryd.underlying9 hV4
              obtain ⟨_, A4, c4, rfl, hc4, _, _, _⟩ := hV4
              have hX8 : sX.size ≤ 100 := by rw [hsX, strB_size, ← hm4]; omega
              have hd4 : decide ((t : Int) < m4) = false := by simp; omega
              have HSX := Lib.hid hsX
              clear hm4 hsX hsl4 hoff4 hq4 hg4 hb4 htcellP
              go_wp2_with fail
              refine (place_any z 100 w4 (by omega) (by omega)).mono ?_
              rintro e w0 ⟨rfl, rfl⟩
              rw [← HT.out]
              go_wp2_with fail
              go_roundw
              case rel =>
                refine ⟨i + 1, O ++ BS.take (t : Int).toNat, BS.drop (t : Int).toNat, true, ?_, ?_, rfl, by go_num, by omega, by rw [List.length_drop]; omega, ?_, HQ4.out, HB4.out⟩
                · rw [List.append_assoc, List.take_append_drop, HBS2.out, HSI.out]
                · rw [HSO.out, HSX.out, strB_append]
                · rw [List.append_assoc, List.take_append_drop, List.length_append, HBS2.out]; omega
              case measure => simp [intOf]; omega
          · by_cases hr : bs.length + m ≤ n
            · have hfit : decide ((sI.size : Int) - sO.size + m ≤ n) = true := by have := HSZ.out.1; have := HSZ.out.2; simp; omega
              go_wp2_with fail
              refine (qput_gone A w.heap.size n bs _ ys wr HE2.out HV2.out (by omega) (by omega) (by omega) (by rw [← HM.out]; omega) HQ.out).mono ?_
              rintro e w2 ⟨rfl, hq2, hg2⟩
              have hb2 := below_of_only HB.out hg2 HBS.out (Nat.le_refl _)
              have HQ2 := Lib.hid hq2
              have HB2 := Lib.hid hb2
              have hcell2 := hb2.cell (p := ⟨lb, lo + i, none⟩) hlb |>.trans ((HB.out.cell (p := ⟨lb, lo + i, none⟩) hlb).symm.trans hcell)
              have htcell2 := hb2.cell (p := ⟨tb, to_ + i, none⟩) htb |>.trans ((HB.out.cell (p := ⟨tb, to_ + i, none⟩) htb).symm.trans htcell)
              clear hq2 hg2 hb2 hcell
              clear htcell
              go_wp2_with fail
              refine (kind_err A 15 (by omega) (by omega) w2 (HE.out.to HB2.out HB2.out.size)).mono ?_
              rintro e w3 ⟨rfl, hb3⟩
              have HQP := Lib.hid (HQ2.out.below hb3)
              have HBP := Lib.hid (HB2.out.trans (hb3.mono HB2.out.size))
              have htcellP := hb3.cell (p := ⟨tb, to_ + i, none⟩) (Nat.lt_of_lt_of_le htb HB2.out.size) |>.trans htcell2
              clear hb3
              go_wp2_with fail
              refine (place_any z 100 w3 (by omega) (by omega)).mono ?_
              rintro e w0 ⟨rfl, rfl⟩
              rw [← HT.out]
              obtain ⟨BS, hBS⟩ : ∃ l, l = bs := ⟨_, rfl⟩
              have hBl : BS.length ≤ n := by rw [hBS]; omega
              have HBS2 := Lib.hid hBS
              rw [← hBS] at HQP
              clear hBS
              go_wp2_with fail
              refine (qtake_any w.heap.size n BS true t w3 HQP.out (by omega)).mono ?_
              rintro e w4 ⟨v4, rfl, hsl4, hoff4, hq4, hg4⟩
              have hb4 := below_of_only HBP.out hg4 HBP.out.size (Nat.le_refl _)
              have HQ4 := Lib.hid hq4
              have HB4 := Lib.hid hb4
              have htcell4 := hb4.cell (p := ⟨tb, to_ + i, none⟩) htb |>.trans ((HBP.out.cell (p := ⟨tb, to_ + i, none⟩) htb).symm.trans htcellP)
              obtain ⟨m4, hm4⟩ : ∃ k, k = (BS.take (t : Int).toNat).length := ⟨_, rfl⟩
              have hm4t : m4 ≤ t := by rw [hm4, List.length_take]; omega
              have hV4 : SlN w4 w4.heap.size 1 v4 m4 (bv (BS.take (t : Int).toNat)) := by have := hsl4; unfold Sl at this; rwa [bv_length, ← hm4] at this
              obtain ⟨sX, hsX⟩ : ∃ s, s = strB (BS.take (t : Int).toNat) := ⟨_, rfl⟩
              have hcv4 : (convert 31 9 v4).run Tryd.prog w4 = .ok (.string sX) w4 := by rw [hsX]; exact conv_str Tryd.underlying31 Tryd.underlying5 Tryd.underlying9 hV4
              obtain ⟨_, A4, c4, rfl, hc4, _, _, _⟩ := hV4
              have hX8 : sX.size ≤ 100 := by rw [hsX, strB_size, ← hm4]; omega
              have hd4 : decide ((t : Int) < m4) = false := by simp; omega
              have HSX := Lib.hid hsX
              clear hm4 hsX hsl4 hoff4 hq4 hg4 hb4 htcellP
              go_wp2_with fail
              refine (place_any z 100 w4 (by omega) (by omega)).mono ?_
              rintro e w0 ⟨rfl, rfl⟩
              rw [← HT.out]
              go_wp2_with fail
              go_roundw
              case rel =>
                refine ⟨i + 1, O ++ BS.take (t : Int).toNat, BS.drop (t : Int).toNat, true, ?_, ?_, rfl, by go_num, by omega, by rw [List.length_drop]; omega, ?_, HQ4.out, HB4.out⟩
                · rw [List.append_assoc, List.take_append_drop, HBS2.out, HSI.out]
                · rw [HSO.out, HSX.out, strB_append]
                · rw [List.append_assoc, List.take_append_drop, List.length_append, HBS2.out]; omega
              case measure => simp [intOf]; omega
            · have hfit : decide ((sI.size : Int) - sO.size + m ≤ n) = false := by have := HSZ.out.1; have := HSZ.out.2; simp; omega
              go_wp2_with fail
              refine (qput_gone A w.heap.size n bs _ ys wr HE2.out HV2.out (by omega) (by omega) (by omega) (by rw [← HM.out]; omega) HQ.out).mono ?_
              rintro e w2 ⟨rfl, hq2, hg2⟩
              have hb2 := below_of_only HB.out hg2 HBS.out (Nat.le_refl _)
              have HQ2 := Lib.hid hq2
              have HB2 := Lib.hid hb2
              have hcell2 := hb2.cell (p := ⟨lb, lo + i, none⟩) hlb |>.trans ((HB.out.cell (p := ⟨lb, lo + i, none⟩) hlb).symm.trans hcell)
              have htcell2 := hb2.cell (p := ⟨tb, to_ + i, none⟩) htb |>.trans ((HB.out.cell (p := ⟨tb, to_ + i, none⟩) htb).symm.trans htcell)
              clear hq2 hg2 hb2 hcell
              clear htcell
              go_wp2_with fail
              refine (kind_err A 15 (by omega) (by omega) w2 (HE.out.to HB2.out HB2.out.size)).mono ?_
              rintro e w3 ⟨rfl, hb3⟩
              have HQP := Lib.hid (HQ2.out.below hb3)
              have HBP := Lib.hid (HB2.out.trans (hb3.mono HB2.out.size))
              have htcellP := hb3.cell (p := ⟨tb, to_ + i, none⟩) (Nat.lt_of_lt_of_le htb HB2.out.size) |>.trans htcell2
              clear hb3
              go_wp2_with fail
              refine (place_any z 100 w3 (by omega) (by omega)).mono ?_
              rintro e w0 ⟨rfl, rfl⟩
              rw [← HT.out]
              obtain ⟨BS, hBS⟩ : ∃ l, l = bs := ⟨_, rfl⟩
              have hBl : BS.length ≤ n := by rw [hBS]; omega
              have HBS2 := Lib.hid hBS
              rw [← hBS] at HQP
              clear hBS
              go_wp2_with fail
              refine (qtake_any w.heap.size n BS true t w3 HQP.out (by omega)).mono ?_
              rintro e w4 ⟨v4, rfl, hsl4, hoff4, hq4, hg4⟩
              have hb4 := below_of_only HBP.out hg4 HBP.out.size (Nat.le_refl _)
              have HQ4 := Lib.hid hq4
              have HB4 := Lib.hid hb4
              have htcell4 := hb4.cell (p := ⟨tb, to_ + i, none⟩) htb |>.trans ((HBP.out.cell (p := ⟨tb, to_ + i, none⟩) htb).symm.trans htcellP)
              obtain ⟨m4, hm4⟩ : ∃ k, k = (BS.take (t : Int).toNat).length := ⟨_, rfl⟩
              have hm4t : m4 ≤ t := by rw [hm4, List.length_take]; omega
              have hV4 : SlN w4 w4.heap.size 1 v4 m4 (bv (BS.take (t : Int).toNat)) := by have := hsl4; unfold Sl at this; rwa [bv_length, ← hm4] at this
              obtain ⟨sX, hsX⟩ : ∃ s, s = strB (BS.take (t : Int).toNat) := ⟨_, rfl⟩
              have hcv4 : (convert 31 9 v4).run Tryd.prog w4 = .ok (.string sX) w4 := by rw [hsX]; exact conv_str Tryd.underlying31 Tryd.underlying5 Tryd.underlying9 hV4
              obtain ⟨_, A4, c4, rfl, hc4, _, _, _⟩ := hV4
              have hX8 : sX.size ≤ 100 := by rw [hsX, strB_size, ← hm4]; omega
              have hd4 : decide ((t : Int) < m4) = false := by simp; omega
              have HSX := Lib.hid hsX
              clear hm4 hsX hsl4 hoff4 hq4 hg4 hb4 htcellP
              go_wp2_with fail
              refine (place_any z 100 w4 (by omega) (by omega)).mono ?_
              rintro e w0 ⟨rfl, rfl⟩
              rw [← HT.out]
              go_wp2_with fail
              go_roundw
              case rel =>
                refine ⟨i + 1, O ++ BS.take (t : Int).toNat, BS.drop (t : Int).toNat, true, ?_, ?_, rfl, by go_num, by omega, by rw [List.length_drop]; omega, ?_, HQ4.out, HB4.out⟩
                · rw [List.append_assoc, List.take_append_drop, HBS2.out, HSI.out]
                · rw [HSO.out, HSX.out, strB_append]
                · rw [List.append_assoc, List.take_append_drop, List.length_append, HBS2.out]; omega
              case measure => simp [intOf]; omega
        · rcases cl with _ | _
          · by_cases hr : bs.length + m ≤ n
            · have hfit : decide ((sI.size : Int) - sO.size + m ≤ n) = true := by have := HSZ.out.1; have := HSZ.out.2; simp; omega
              go_wp2_with fail
              refine (qput_ok A w.heap.size n bs _ ys wr HE2.out HV2.out (by omega) (by omega) (by omega) (by rw [← HM.out]; omega) HQ.out (by rw [← HM.out]; omega)).mono ?_
              rintro e w2 ⟨rfl, hq2, hg2⟩
              have hb2 := below_of_only HB.out hg2 HBS.out (Nat.le_refl _)
              have HQ2 := Lib.hid hq2
              have HB2 := Lib.hid hb2
              have hcell2 := hb2.cell (p := ⟨lb, lo + i, none⟩) hlb |>.trans ((HB.out.cell (p := ⟨lb, lo + i, none⟩) hlb).symm.trans hcell)
              have hV3 : SlN w2 w.heap.size 1 (.slice UA m uc) m (bv ys) := by have := HVW.out.below hb2; unfold Sl at this; rwa [bv_length, ← HM.out] at this
              obtain ⟨sY, hsY⟩ : ∃ s, s = strB ys := ⟨_, rfl⟩
              have hcv : (convert 31 9 (.slice UA m uc)).run Tryd.prog w2 = .ok (.string sY) w2 := by rw [hsY]; exact conv_str Tryd.underlying31 Tryd.underlying5 Tryd.underlying9 hV3
              have hY8 : sY.size ≤ 200 := by rw [hsY, strB_size, ← HM.out]; omega
              have HSY := Lib.hid hsY
              clear hV3 hsY
              clear hq2 hg2 hb2 hcell
              go_wp2_with fail
              have HQP := HQ2
              have HBP := HB2
              go_roundw
              case rel =>
                refine ⟨i + 1, O, (bs ++ ys), false, ?_, by rw [HSO.out], rfl, by go_num, by omega, ?_, ?_, HQP.out, HBP.out⟩
                · rw [HSI.out, HSY.out, strB_append, List.append_assoc]
                · rw [List.length_append, ← HM.out]; omega
                · rw [List.length_append]; rw [List.length_append, ← HM.out]; omega
              case measure => simp [intOf]; omega
            · have hfit : decide ((sI.size : Int) - sO.size + m ≤ n) = false := by have := HSZ.out.1; have := HSZ.out.2; simp; omega
              go_wp2_with fail
              refine (qput_full A w.heap.size n bs _ ys wr HE2.out HV2.out (by omega) (by omega) (by omega) (by rw [← HM.out]; omega) HQ.out (by rw [← HM.out]; omega)).mono ?_
              rintro e w2 ⟨rfl, hq2, hg2⟩
              have hb2 := below_of_only HB.out hg2 HBS.out (Nat.le_refl _)
              have HQ2 := Lib.hid hq2
              have HB2 := Lib.hid hb2
              have hcell2 := hb2.cell (p := ⟨lb, lo + i, none⟩) hlb |>.trans ((HB.out.cell (p := ⟨lb, lo + i, none⟩) hlb).symm.trans hcell)
              clear hq2 hg2 hb2 hcell
              go_wp2_with fail
              have HQP := HQ2
              have HBP := HB2
              go_roundw
              case rel =>
                refine ⟨i + 1, O, bs, true, ?_, by rw [HSO.out], rfl, by go_num, by omega, ?_, ?_, HQP.out, HBP.out⟩
                · rw [HSI.out]
                · omega
                · rw [List.length_append]; omega
              case measure => simp [intOf]; omega
          · by_cases hr : bs.length + m ≤ n
            · have hfit : decide ((sI.size : Int) - sO.size + m ≤ n) = true := by have := HSZ.out.1; have := HSZ.out.2; simp; omega
              go_wp2_with fail
              refine (qput_gone A w.heap.size n bs _ ys wr HE2.out HV2.out (by omega) (by omega) (by omega) (by rw [← HM.out]; omega) HQ.out).mono ?_
              rintro e w2 ⟨rfl, hq2, hg2⟩
              have hb2 := below_of_only HB.out hg2 HBS.out (Nat.le_refl _)
              have HQ2 := Lib.hid hq2
              have HB2 := Lib.hid hb2
              have hcell2 := hb2.cell (p := ⟨lb, lo + i, none⟩) hlb |>.trans ((HB.out.cell (p := ⟨lb, lo + i, none⟩) hlb).symm.trans hcell)
              clear hq2 hg2 hb2 hcell
              go_wp2_with fail
              refine (kind_err A 15 (by omega) (by omega) w2 (HE.out.to HB2.out HB2.out.size)).mono ?_
              rintro e w3 ⟨rfl, hb3⟩
              have HQP := Lib.hid (HQ2.out.below hb3)
              have HBP := Lib.hid (HB2.out.trans (hb3.mono HB2.out.size))
              clear hb3
              go_wp2_with fail
              go_roundw
              case rel =>
                refine ⟨i + 1, O, bs, true, ?_, by rw [HSO.out], rfl, by go_num, by omega, ?_, ?_, HQP.out, HBP.out⟩
                · rw [HSI.out]
                · omega
                · rw [List.length_append]; omega
              case measure => simp [intOf]; omega
            · have hfit : decide ((sI.size : Int) - sO.size + m ≤ n) = false := by have := HSZ.out.1; have := HSZ.out.2; simp; omega
              go_wp2_with fail
              refine (qput_gone A w.heap.size n bs _ ys wr HE2.out HV2.out (by omega) (by omega) (by omega) (by rw [← HM.out]; omega) HQ.out).mono ?_
              rintro e w2 ⟨rfl, hq2, hg2⟩
              have hb2 := below_of_only HB.out hg2 HBS.out (Nat.le_refl _)
              have HQ2 := Lib.hid hq2
              have HB2 := Lib.hid hb2
              have hcell2 := hb2.cell (p := ⟨lb, lo + i, none⟩) hlb |>.trans ((HB.out.cell (p := ⟨lb, lo + i, none⟩) hlb).symm.trans hcell)
              clear hq2 hg2 hb2 hcell
              go_wp2_with fail
              refine (kind_err A 15 (by omega) (by omega) w2 (HE.out.to HB2.out HB2.out.size)).mono ?_
              rintro e w3 ⟨rfl, hb3⟩
              have HQP := Lib.hid (HQ2.out.below hb3)
              have HBP := Lib.hid (HB2.out.trans (hb3.mono HB2.out.size))
              clear hb3
              go_wp2_with fail
              go_roundw
              case rel =>
                refine ⟨i + 1, O, bs, true, ?_, by rw [HSO.out], rfl, by go_num, by omega, ?_, ?_, HQP.out, HBP.out⟩
                · rw [HSI.out]
                · omega
                · rw [List.length_append]; omega
              case measure => simp [intOf]; omega
    · obtain ⟨sR, hsR⟩ : ∃ s, s = strB bs := ⟨_, rfl⟩
      have hfin : sO ++ sR = sI := by rw [HSO.out, HSI.out, hsR, strB_append]
      have hR8 : sR.size ≤ 300 := by rw [hsR, strB_size]; omega
      have HSR := Lib.hid hsR
      clear hsR
      have hex : ¬ i < ln ∨ (i < ln ∧ i = 40) := by omega
      clear hlt
      rcases hex with hex | ⟨hex, rfl⟩
      all_goals
        go_wp2_with fail
        refine (qtake_any w.heap.size n bs cl 16384 wr HQ.out (by omega)).mono ?_
        rintro e w4 ⟨v4, rfl, hsl4, hoff4, hq4, hg4⟩
        have hb4 := below_of_only HB.out hg4 HB.out.size (Nat.le_refl _)
        have e1 : bs.take (16384 : Int).toNat = bs := List.take_of_length_le (by simp; omega)
        have e2 : bs.drop (16384 : Int).toNat = [] := List.drop_eq_nil_of_le (by simp; omega)
        rw [e1] at hsl4
        rw [e2] at hq4
        have HQ4 := Lib.hid hq4
        have HB4 := Lib.hid hb4
        obtain ⟨m4, hm4⟩ : ∃ k, k = bs.length := ⟨_, rfl⟩
        have hV4 : SlN w4 w4.heap.size 1 v4 m4 (bv bs) := by have := hsl4; unfold Sl at this; rwa [bv_length, ← hm4] at this
        have hcv4 : (convert 31 9 v4).run Tryd.prog w4 = .ok (.string sR) w4 := by rw [HSR.out]; exact conv_str Tryd.underlying31 Tryd.underlying5 Tryd.underlying9 hV4
        obtain ⟨_, A4, c4, rfl, hc4, _, _, _⟩ := hV4
        clear hm4 hsl4 e1 e2 hoff4 hq4 hg4 hb4
        go_wp2_with fail
        refine (qlen_any w.heap.size n _ cl w4 HQ4.out).mono ?_
        rintro e w0 ⟨rfl, rfl⟩
        go_wp2_with fail
        refine (qawake_any A w4 (HE.out.to HB4.out HB4.out.size)).mono ?_
        rintro e w5 ⟨rfl, hb5⟩
        have HB5 := Lib.hid (HB4.out.trans (hb5.mono HB4.out.size))
        clear hb5
        go_wp2
        go_ret
        exact ⟨rfl, HB5.out⟩
end Go.Proofs.YtagjmkgbfbaekaaDoor
