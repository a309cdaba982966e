/- The walk over tableaulaw25.QueuePlays: the queue and the document's, call by call. -/
import Derived.Test.YtagjmkgbfbaekaaDoorQJoint
import Derived.Test.YtagjmkgbfbaekaaDoorQOpen
import Derived.Test.YtagjmkgbfbaekaaDoorPl
import Derived.Deep.RegionHeld3
import Derived.Deep.CutRange
import Derived.Deep.CutBlock
namespace Go.Proofs.YtagjmkgbfbaekaaDoor
open Go.RowKit

theorem QIs.drewN {w : World} {g : Nat} {M : Int} {b : List UInt8} {c : Bool} (h : QIs w g M b c) (n : Nat) : QIs (w.drewN n) g M b c := by
  obtain ⟨v, h1, h2, h3⟩ := h
  exact ⟨v, h1, h2, h3⟩

theorem putB_le (M : Int) (bs ys : List UInt8) (c : Bool) (h : (bs.length : Int) ≤ M) : ((putB M bs ys c).length : Int) ≤ M := by
  unfold putB; split
  · exact h
  · split
    · exact h
    · rw [List.length_append]; omega

/-- What holds at the head of a round: both queues hold the same. -/
def PlaysRel (w0 : World) (g h : Nat) (M : Int) (a : Value) (wr : World) : Prop :=
  ∃ (i : Nat) (bs : List UInt8) (cl : Bool), a = .int .i64 i ∧ i ≤ 60 ∧ (bs.length : Int) ≤ M ∧ QIs wr g M bs cl ∧ RQIs wr h M bs cl ∧ Below w0.heap.size w0 wr

set_option maxRecDepth 100000 in
set_option maxHeartbeats 6400000 in
theorem plays_walk (A : Nat → Addr) (most : Int) (lv : Value) (x : Nat × (Nat → Int) × (Nat → Int) × (Nat → Value) × (Nat → List UInt8)) (w : World) (hE : Errs w w.heap.size allErrs A) (_ : (Lit.int .i64 most).wf = true)
    (hL : OpsQ w w.heap.size lv x.1 x.2.1 x.2.2.1 x.2.2.2.1 x.2.2.2.2) :
    Calls Tryd.prog 9 #[.int .i64 most, lv] w fun e w' => e = .returned (.bool true) ∧ Below w.heap.size w w' := by
  obtain ⟨ln, K, N, V, ls⟩ := x
  have HE := Lib.hid hE
  obtain ⟨M, hM⟩ : ∃ M, M = max 0 (min most 16384) := ⟨_, rfl⟩
  have hM0 : 0 ≤ M := by omega
  have hM1 : M ≤ 16384 := by omega
  have HM := Lib.hid hM
  obtain ⟨⟨LA, lc, hlv, hlc, hlm, _, hLx⟩, hLs⟩ := hL
  simp only at hlv hlc hLx hLs
  subst hlv
  have HLX := Lib.hid hLx
  have HLS := Lib.hid hLs
  unfold maxLen at hlm
  clear hE hM hLx hLs
  go_enter Tryd.func9, Tryd.ntmps9
  go_wp2_with fail
  refine (qnew_any most w).mono ?_
  rintro e w1 ⟨rfl, hq1, hb1⟩
  rw [← HM.out] at hq1
  have HQ1 := Lib.hid hq1
  have HB1 := Lib.hid hb1
  have hs1 := hb1.size
  have hgl := hq1.lt
  clear hq1 hb1
  go_wp2_with fail
  refine (rqnew_any most w1).mono ?_
  rintro e w2 ⟨rfl, hq2, hb2⟩
  rw [← HM.out] at hq2
  have HQ2 := Lib.hid hq2
  have HQ3 := Lib.hid (HQ1.out.below hb2)
  have HB2 := Lib.hid (HB1.out.trans (hb2.mono hs1))
  clear hq2 hb2
  obtain ⟨g, hg⟩ : ∃ g, g = w.heap.size := ⟨_, rfl⟩
  obtain ⟨h, hh⟩ : ∃ h, h = w1.heap.size := ⟨_, rfl⟩
  rw [← hg, ← hh]
  rw [← hh] at HQ2
  rw [← hg] at HQ3
  have hgh : g ≠ h := by omega
  have hhg : h ≠ g := by omega
  have hBg : w.heap.size ≤ g := by omega
  have hBh : w.heap.size ≤ h := by omega
  clear hg hh hs1 hgl
  go_wp2_with fail
  go_loopw [7] (PlaysRel w g h M) (fun d _ => 60 - (intOf d).toNat)
  case atStart => exact ⟨0, [], false, rfl, by omega, by simpa using hM0, HQ3.out, HQ2.out, HB2.out⟩
  case round =>
    obtain ⟨i, bs, cl, rfl, hi, hbl, hq, hr, hb⟩ := hrel
    have HQ := Lib.hid hq
    have HR := Lib.hid hr
    have HB := Lib.hid hb
    have hgr := hq.lt
    have hhr := Blk.lt hr
    clear hq hr hb
    by_cases hlt : i < ln ∧ i < 60
    · obtain ⟨hl1, hl2⟩ := hlt
      obtain ⟨lb, lo, rfl, hlb, hlx⟩ := HLX.out (by omega)
      have hc0 : wr.cell? ⟨lb, lo + i * 3, none⟩ = some (.int .i64 (K i)) := (HB.out.cell (p := ⟨lb, lo + i * 3, none⟩) hlb).trans (by simpa using hlx i 0 hl1 (by omega))
      have hc1 : wr.cell? ⟨lb, lo + i * 3 + 1, none⟩ = some (.int .i64 (N i)) := (HB.out.cell (p := ⟨lb, lo + i * 3 + 1, none⟩) hlb).trans (by have := hlx i 1 hl1 (by omega); simpa [Nat.add_assoc] using this)
      have hc2 : wr.cell? ⟨lb, lo + i * 3 + 2, none⟩ = some (V i) := (HB.out.cell (p := ⟨lb, lo + i * 3 + 2, none⟩) hlb).trans (by have := hlx i 2 hl1 (by omega); simpa [Nat.add_assoc] using this)
      have hsl := HLS.out i hl1
      obtain ⟨ys, hys⟩ : ∃ ys, ys = ls i := ⟨_, rfl⟩
      obtain ⟨u, hu⟩ : ∃ u, u = V i := ⟨_, rfl⟩
      obtain ⟨kk, hkk⟩ : ∃ k, k = K i := ⟨_, rfl⟩
      obtain ⟨nn, hnn⟩ : ∃ n, n = N i := ⟨_, rfl⟩
      rw [← hys, ← hu] at hsl
      rw [← hu] at hc2
      rw [← hkk] at hc0
      rw [← hnn] at hc1
      have HV := Lib.hid hsl
      obtain ⟨_, UA, uc, huv, huc, hum, _, _⟩ := hsl
      rw [bv_length] at huv huc
      obtain ⟨m, hm⟩ : ∃ m, m = ys.length := ⟨_, rfl⟩
      rw [← hm] at huv huc
      subst huv
      have HMM := Lib.hid hm
      clear hm hu hys hlx hkk hnn
      unfold maxLen at hum
      have hB1 := HB.out.size
      have hj : J w g h wr.heap.size #[.int .i64 kk, .int .i64 nn, .slice UA m uc] M bs cl bs cl (.slice none 0 0) [] (wr.alloc (.cells #[.int .i64 kk, .int .i64 nn, .slice UA m uc] 66)) :=
        J.below ⟨HQ.out.below ((Below.refl _ _).alloc (Nat.le_refl _) _), HR.out.below ((Below.refl _ _).alloc (Nat.le_refl _) _), Sl.nil_ _ _, Blk.new _ _ _, HB.out.alloc HB.out.size _⟩ (Below.refl _ _)
      have HJ := Lib.hid hj
      have hgo : wr.heap.size ≠ g := by omega
      have hho : wr.heap.size ≠ h := by omega
      clear hj
      by_cases h3000 : 3000 < m
      · have hd1 : decide (3000 < (m : Int)) = true := by simp; omega
        go_wp2_with fail
        have hb3 := HJ.out.2.2.2.2
        refine (qawake_any A _ (HE.out.to hb3 hb3.size)).mono ?_
        rintro e w3 ⟨rfl, hb4⟩
        have HB4 := Lib.hid (hb3.trans (hb4.mono hb3.size))
        clear hb4 hb3
        go_wp2_with fail
        go_ret
        exact ⟨rfl, HB4.out⟩
      · have hd1 : decide (3000 < (m : Int)) = false := by simp; omega
        have hy3 : ys.length ≤ 3000 := by rw [← HMM.out]; omega
        have hl16 : bs.length ≤ 16384 := by omega
        go_wp2_with fail
        generalize (wr.alloc (Obj.cells _ _)) = wo at HJ ⊢
        generalize wr.heap.size = o at HJ hgo hho ⊢
        refine (place_any kk 6 wo (by omega) (by omega)).mono ?_
        rintro e w0 ⟨rfl, rfl⟩
        have k0 : wo.cell? ⟨o, 0, none⟩ = some (.int .i64 kk) := HJ.out.cell 0
        have k1 : wo.cell? ⟨o, 1, none⟩ = some (.int .i64 nn) := HJ.out.cell 1
        have k2 : wo.cell? ⟨o, 2, none⟩ = some (.slice UA m uc) := HJ.out.cell 2
        have HJ1 := J.drew HJ
        obtain ⟨p, hp⟩ : ∃ p, p = kk % 6 := ⟨_, rfl⟩
        have hp0 : 0 ≤ p := by omega
        have hp6 : p < 6 := by omega
        rw [← hp]
        clear hp
        go_upto_block 2 with (fail)
        go_cut [9] from 16 to 89 (fun s9 wc => s9 = .bool true ∧ ∃ (bz : List UInt8) (cz : Bool), (bz.length : Int) ≤ M ∧ QIs wc g M bz cz ∧ RQIs wc h M bz cz ∧ Below w.heap.size w wc)
        case rest =>
          obtain ⟨rfl, bz, cz, hbz, hq, hr, hb⟩ := hcut
          obtain ⟨sz, hsz⟩ : ∃ s, s = strB bz := ⟨_, rfl⟩
          have hsz2 : sz.size = bz.length := by rw [hsz, strB_size]
          have HQ5 := Lib.hid hq
          have HR5 := Lib.hid hr
          have HB5 := Lib.hid hb
          have r1 := Blk.cell hr 1
          have r2 := Blk.cell hr 2
          simp at r1 r2
          rw [← hsz] at r1
          clear hq hr hb hsz
          go_wp2_with fail
          go_quiet (first
            | (go_at_call 33; exact Calls.quiet_of_same ((qlen_any g M bz cz _ (HQ5.out.drewN _)).mono fun e w' ⟨he, hw⟩ => ⟨he, hw.symm⟩))
            | (go_at_call 34; exact Calls.quiet_of_same ((qclosed_any g M bz cz _ (HQ5.out.drewN _)).mono fun e w' ⟨he, hw⟩ => ⟨he, hw.symm⟩)))
          all_goals (try go_wp2)
          go_roundw
          case rel => exact ⟨i + 1, bz, cz, by go_num, by omega, hbz, HQ5.out.drewN nq, Blk.drewN HR5.out nq, below_drewN HB5.out nq⟩
          case measure => simp [intOf]; omega
        case first =>
          by_cases hc : p = 5
          · subst hc
            go_wp2_with fail
            refine (qclose_any g M bs cl wo HJ.out.1).mono ?_
            rintro e w' ⟨⟨_, rfl⟩, hq, hg⟩
            have hJ5 : Hid (J w g h o _ M bs true bs cl _ _ w') := J.first HJ.out hg hq hhg hgo hBg
            have hr := hJ5.out.2.1
            have r2 := Blk.cell hr 2
            have f2 := Blk.frozen hr 2
            simp at r2
            clear hq hg hr
            go_wp2_with fail
            go_meet
            case rel =>
              obtain ⟨j1, j2, _, _, j5⟩ := hJ5.out
              have hk := only_set (only_refl w' (some h)) 2 (.bool true)
              refine ⟨rfl, bs, true, hbl, j1.grown j2 hk hgh, ?_, below_of_only j5 hk j5.size hBh⟩
              have := Blk.set_ j2 2 (.bool true)
              simpa [RQIs] using this
          · by_cases hc4 : p = 3 ∨ p = 4
            · rcases hc4 with rfl | rfl
              all_goals
                go_wp2_with fail
                go_region_with (first
                  | (go_at_call 32; refine (j_take nn (by assumption) hhg hgo hBg (by omega)).mono ?_; rintro e w' ⟨v, rfl, hj, hcell, hcv⟩; have k1' := hcell 1; simp at k1'; clear hcell)
                  | (go_at_call 36; refine (j_rtake nn (by assumption) hgh hho hBh (by omega)).mono ?_; rintro e w' ⟨rfl, hj, hcell, hcv⟩; have k1' := hcell 1; simp at k1'; clear hcell))
              all_goals
                have HJF : Hid (J w g h o _ M (bs.drop nn.toNat) cl (bs.drop nn.toNat) cl _ _ w') := hj
                go_wp2_with fail
                go_meet
                case rel => exact ⟨rfl, bs.drop nn.toNat, cl, by rw [List.length_drop]; omega, HJF.out.1, HJF.out.2.1, HJF.out.2.2.2.2⟩
            · have hn3 : (p == 3) = false := by simp; omega
              have hn4 : (p == 4) = false := by simp; omega
              have hn5 : (p == 5) = false := by simp; omega
              clear hc hc4
              go_wp2_with fail
              go_region_held3 (fun w' => w'.cell? ⟨o, 2, none⟩ = some (.slice UA m uc)) (go_keep) (first
                | (go_at_call 21; refine (j_bytes (by assumption) HV hy3).mono ?_; rintro e w' ⟨v, rfl, hj, hcell⟩; have k2' := hcell 2; simp at k2'; clear hcell)
                | (go_at_call 31; refine (j_put (by assumption) HE hhg hgo hBg (by omega) hM0 hM1 hy3).mono ?_; rintro e w' ⟨rfl, hj, hcell⟩; have k2' := hcell 2; simp at k2'; clear hcell)
                | (go_at_call 23; refine (j_kind (by assumption) HE _ (putK_le _ _ _ _)).mono ?_; rintro e w' ⟨rfl, hj, hcell⟩; have k2' := hcell 2; simp at k2'; clear hcell)
                | (go_at_call 38; refine (j_rput (by assumption) HV hy3 hgh hho hBh (by omega) hM0 hM1).mono ?_; rintro e w' ⟨rfl, hj, hcell⟩; have k2' := hcell 2; simp at k2'; clear hcell))
              all_goals
                have HJF : Hid (J w g h o _ M (putB M bs ys cl) (putC M bs ys cl) (putB M bs ys cl) (putC M bs ys cl) _ _ w') := hj
                go_wp2_with fail
                go_meet
                case rel => exact ⟨rfl, putB M bs ys cl, putC M bs ys cl, putB_le M bs ys cl hbl, HJF.out.1, HJF.out.2.1, HJF.out.2.2.2.2⟩
    · have hex : ¬ i < ln ∨ (i < ln ∧ i = 60) := by omega
      clear hlt
      rcases hex with hex | ⟨hex, rfl⟩
      all_goals
        go_wp2_with fail
        refine (qawake_any A wr (HE.out.to HB.out HB.out.size)).mono ?_
        rintro e w5 ⟨rfl, hb5⟩
        have HB5 := Lib.hid (HB.out.trans (hb5.mono HB.out.size))
        clear hb5
        go_wp2
        go_ret
        exact ⟨rfl, HB5.out⟩
end Go.Proofs.YtagjmkgbfbaekaaDoor
