/- The walk over tableaulaw05.ReaderStops. -/
import Derived.Test.YtihbgkighckiiaaDoorStopsL
import Derived.Test.YtihbgkighckiiaaDoorBytes
import Derived.Test.YtihbgkighckiiaaDoorOpen3
import Derived.Test.YtihbgkighckiiaaDoorRef1
import Derived.Test.YtihbgkighckiiaaDoorKind
namespace Go.Proofs.YtihbgkighckiiaaDoor
open Go.RowKit
set_option maxRecDepth 100000

theorem RIs.nil_below {A : Nat → Addr} {w w' : World} {B g k : Nat} (h : RIs A w g [] k) (hb : Below B w w') (hg : g < B) : RIs A w' g [] k := by
  obtain ⟨v, h1, ⟨hl, Ad, c, hv, hc, hm, h0, _⟩, h3⟩ := h
  exact ⟨v, h1.below hb hg, ⟨hl, Ad, c, hv, hc, hm, h0, fun h => absurd h (Nat.lt_irrefl _)⟩, h3⟩
theorem RIs.lt {A : Nat → Addr} {w : World} {g k : Nat} {l : List UInt8} (h : RIs A w g l k) : g < w.heap.size := by
  obtain ⟨v, h1, _⟩ := h
  exact h1.lt
/-- A reader that has stopped. -/
def StopRel (A : Nat → Addr) (g k : Nat) (w : World) (a : Value) (wr : World) : Prop := ∃ i : Nat, i ≤ 10 ∧ a = .int .i64 i ∧ RIs A wr g [] k ∧ Below w.heap.size w wr

set_option maxHeartbeats 6400000 in
theorem rstops_walk (A : Nat → Addr) (av : Value) (aw : List UInt8) (z : Int) (lv : Value) (x : Nat × (Nat → Value) × (Nat → List UInt8)) (w : World) (hE : Errs w w.heap.size allErrs A) (ha : Sl w w.heap.size av (bv aw) ∧ aw.length ≤ 140737488351232) (hz : (Lit.int .u16 z).wf = true)
    (hL : SlB w w.heap.size lv x.1 x.2.1 x.2.2 ∧ ∀ i, i < x.1 → (x.2.2 i).length ≤ 140737488351232) :
    Calls Tryd.prog 12 #[av, .int .u16 z, lv] w fun e w' => e = .returned (.bool true) ∧ Below w.heap.size w w' := by
  have z01 : 0 ≤ z ∧ z < 65536 := by have := bounds_u16 hz; omega
  obtain ⟨z0, z1⟩ := z01
  obtain ⟨ln, V, ls⟩ := x
  obtain ⟨hL, hLl⟩ := hL
  obtain ⟨ha, hal⟩ := ha
  have HE := Lib.hid hE
  have H2 : (2 : Nat) ∈ allErrs := mem_all 2 (by omega) (by omega)
  have H3 : (3 : Nat) ∈ allErrs := mem_all 3 (by omega) (by omega)
  have H4 : (4 : Nat) ∈ allErrs := mem_all 4 (by omega) (by omega)
  obtain ⟨⟨LA, lc, hlv, hlc, hlm, _, hLx⟩, hLs⟩ := hL
  simp only at hlv hlc hLx hLs hLl
  subst hlv
  have HA := Lib.hid ha
  obtain ⟨_, AA, ac, rfl, hac, hacm, _⟩ := ha
  rw [bv_length] at hac HA ⊢
  obtain ⟨m, hm⟩ : ∃ m, m = aw.length := ⟨_, rfl⟩
  rw [← hm] at hac HA hal ⊢
  have HM := Lib.hid hm
  have HLX := Lib.hid hLx
  have HLS := Lib.hid hLs
  have HLL := Lib.hid hLl
  unfold maxLen at hlm hacm
  clear hE hz hLx hLs hLl hm
  by_cases hok : 8 ≤ z ∧ z % 4 = 0 ∧ z ≤ 4096
  · obtain ⟨q1, q2, q3⟩ := hok
    have d1 : decide (8 ≤ z) = true := by simpa using q1
    have d2 : (z % 4 == 0) = true := by simpa using q2
    have d3 : decide (z ≤ 4096) = true := by simpa using q3
    clear q1 q2 q3
    go_enter Tryd.func12, Tryd.ntmps12
    go_wp2_with fail
    refine (w5awake_any A allErrs H2 H3 H4 w HE.out).mono ?_
    rintro e w1 ⟨rfl, hb1⟩
    go_wp2
    go_ret
    exact ⟨rfl, hb1⟩
  · have hbad : Hid (¬ (8 ≤ z ∧ z % 4 = 0 ∧ z ≤ 4096)) := hok
    have hca : z < 8 ∨ (8 ≤ z ∧ z % 4 ≠ 0) ∨ (8 ≤ z ∧ z % 4 = 0 ∧ 4096 < z) := by omega
    have HCA := Lib.hid hca
    clear hok hca
    go_enter Tryd.func12, Tryd.ntmps12
    go_upto_region 1 with (fail)
    go_cut [30] from 15 to 30 (fun s30 wc => w = wc ∧ s30 = .bool (decide (2000 < (m : Int))))
    case first =>
      rcases HCA.out with q | ⟨q, q2⟩ | ⟨q, q2, q3⟩
      · have d1 : decide (8 ≤ z) = false := by simpa using q
        clear q
        go_wp2_with fail
        go_meet
        exact ⟨rfl, rfl⟩
      · have d1 : decide (8 ≤ z) = true := by simpa using q
        have d2 : (z % 4 == 0) = false := by simpa using q2
        clear q q2
        go_wp2_with fail
        go_meet
        exact ⟨rfl, rfl⟩
      · have d1 : decide (8 ≤ z) = true := by simpa using q
        have d2 : (z % 4 == 0) = true := by simpa using q2
        have d3 : decide (z ≤ 4096) = false := by simpa using q3
        clear q q2 q3
        go_wp2_with fail
        go_meet
        exact ⟨rfl, rfl⟩
    case rest =>
      obtain ⟨rfl, rfl⟩ := hcut
      by_cases hbig : 2000 < m
      · have d1 : decide (2000 < (m : Int)) = true := by simp; omega
        rw [d1]
        go_wp2_with fail
        refine (w5awake_any A allErrs H2 H3 H4 w HE.out).mono ?_
        rintro e w1 ⟨rfl, hb1⟩
        go_wp2
        go_ret
        exact ⟨rfl, hb1⟩
      have d1 : decide (2000 < (m : Int)) = false := by simp; omega
      rw [d1]
      have hm2 : m ≤ 2000 := by omega
      clear hbig d1
      go_wp2_with fail
      refine (new_any A w).mono ?_
      rintro e w1 ⟨rfl, hr1, hb1⟩
      have HR1 := Lib.hid hr1
      have HB1 := Lib.hid hb1
      have HA1 := Lib.hid ((SlN.below (show SlN w w.heap.size 1 (.slice AA m ac) m (bv aw) from by have := HA.out; unfold Sl at this; rw [bv_length, ← HM.out] at this; exact this) hb1).more hb1.size)
      clear hr1 hb1
      go_wp2_with fail
      refine (bytes_any _ aw w1 HA1.out.toSl (by rw [← HM.out]; omega)).mono ?_
      rintro e w2 ⟨v2, rfl, hown, hb2⟩
      have HR2 := Lib.hid (HR1.out.below hb2)
      have HB2 := Lib.hid (HB1.out.trans (hb2.mono HB1.out.size))
      have HS2 := Lib.hid (Sl.of_own hown)
      clear hown hb2
      go_wp2_with fail
      refine (feed_any A allErrs H2 H3 H4 w.heap.size [] 0 _ aw w2 (HE.out.to HB2.out HB2.out.size) HR2.out HS2.out (fun _ => by rw [← HM.out]; simp; omega)).mono ?_
      rintro e w3 ⟨vl, rfl, hown3, hr3, hg3⟩
      have hfd : fed [] 0 aw = feedL aw := by unfold fed; rw [if_neg (by omega), List.nil_append]
      rw [hfd] at hown3 hr3 ⊢
      have hcnt := feedL_count _ aw (Nat.le_refl _)
      rw [← HM.out] at hcnt
      obtain ⟨M, hM⟩ : ∃ M, M = (feedL aw).1 := ⟨_, rfl⟩
      obtain ⟨lf, hlf⟩ : ∃ lf, lf = (feedL aw).2.1 := ⟨_, rfl⟩
      obtain ⟨k, hk⟩ : ∃ k, k = (feedL aw).2.2 := ⟨_, rfl⟩
      rw [← hM, ← hlf] at hcnt
      rw [← hM] at hown3
      rw [← hlf, ← hk] at hr3
      rw [← hk]
      have hb3 := below_of_only HB2.out hg3 HB2.out.size (Nat.le_refl _)
      have HR3 := Lib.hid hr3
      have HB3 := Lib.hid hb3
      obtain ⟨A3, c3, rfl⟩ := own_slice' hown3
      clear hr3 hb3 hg3 hown3 hM hlf hk hfd
      by_cases hk0 : k = 0
      · subst hk0
        rw [errV_zero]
        go_wp2_with fail
        refine (left_any A w.heap.size lf 0 w3 HR3.out).mono ?_
        rintro e w4 ⟨rfl, rfl⟩
        obtain ⟨q, hq⟩ : ∃ q, q = lf.length := ⟨_, rfl⟩
        rw [← hq] at hcnt ⊢
        have HQ := Lib.hid hq
        clear hq
        by_cases hq0 : q = 0
        · subst hq0
          have hlf : lf = [] := List.eq_nil_of_length_eq_zero HQ.out.symm
          subst hlf
          have hwz : w.heap.size ≤ w3.heap.size := HB3.out.size
          have HWZ := Lib.hid hwz
          obtain ⟨i8, hi8, hz8, hs18, hby8⟩ := info_parts Tryd.infoU8
          clear hwz
          go_wp2_with fail
          refine (rput_any 1 w3 (by omega) (by omega)).mono ?_
          rintro e w4 ⟨rfl, hblk, hb4⟩
          have HO1 := Lib.hid (own_blk hblk (Nat.le_refl w3.heap.size) (by rw [bv_length, le4_length]) (by unfold maxLen; omega))
          have HB4 := Lib.hid (HB3.out.trans (hb4.mono HWZ.out))
          have HR4 := Lib.hid (HR3.out.below hb4)
          have HB34 := Lib.hid hb4
          clear hblk hb4
          go_wp2_with fail
          refine (rput_any (z * 65536) w4 (by omega) (by omega)).mono ?_
          rintro e w5 ⟨rfl, hblk, hb5⟩
          have HO2 := Lib.hid (own_later' HO1.out hb5)
          have HB5 := Lib.hid (HB4.out.trans (hb5.mono HB4.out.size))
          have HR5 := Lib.hid (HR4.out.below hb5)
          have HB35 := Lib.hid (HB34.out.trans (hb5.mono HB34.out.size))
          have HS5 : Hid (SlN w5 w5.heap.size 1 (.slice (some ⟨w4.heap.size, 0, none⟩) 4 4) 4 (bv (le4 (z * 65536)))) := SlN.of_own (own_blk hblk (Nat.zero_le _) (by rw [bv_length, le4_length]) (by unfold maxLen; omega))
          clear hblk hb5
          go_wp2_with (
            at_builtin
            refine wpList_app rfl _ _ _ _ rfl _ _ rfl rfl (fun v' w' => Hid (w'.ownsRow w3.heap.size 5 1 v' (4 + 4) (bv (le4 1) ++ bv (le4 (z * 65536))) ∧ Below w3.heap.size w5 w')) ?hrun ?_
            case hrun =>
              obtain ⟨v', w', hr, h2, h3⟩ := run_app_own (ty := 30) Tryd.underlying30 hi8 hz8 hs18 rfl HO2.out HS5.out (bv_one _) HB35.out.size ⟨by omega, .inr hby8⟩
              exact ⟨v', w', hr, h2, h3⟩
            intro v6 w6 hR6)
          have HB6 := Lib.hid (HB5.out.trans (hR6.out.2.mono HWZ.out))
          have HR6 := Lib.hid (HR5.out.nil_below hR6.out.2 HR3.out.lt)
          have ho6 : w6.ownsRow w3.heap.size 5 1 v6 8 (bv (le4 1 ++ le4 (z * 65536))) := by rw [bv_append]; exact hR6.out.1
          have HS6 := Lib.hid (Sl.of_own ho6)
          obtain ⟨k2, hk2, hfn⟩ := feedL_none z z0 z1 hbad.out
          clear ho6 hR6 HO1 HO2 HS5
          refine (feed_any A allErrs H2 H3 H4 w.heap.size [] 0 _ (le4 1 ++ le4 (z * 65536)) w6 (HE.out.to HB6.out HB6.out.size) HR6.out HS6.out (fun _ => by rw [List.length_append, le4_length, le4_length]; decide)).mono ?_
          rintro e w7 ⟨vl, rfl, hown7, hr7, hg7⟩
          have hfd : fed [] 0 (le4 1 ++ le4 (z * 65536)) = ([], [], k2) := by unfold fed; rw [if_neg (by omega), List.nil_append, hfn]
          rw [hfd] at hown7 hr7 ⊢
          have HB7 := Lib.hid (below_of_only HB6.out hg7 HB6.out.size (Nat.le_refl _))
          have HR7 := Lib.hid hr7
          obtain ⟨A7, c7, rfl⟩ := own_slice' hown7
          have HK2 := Lib.hid hk2
          have hk20 : 0 < k2 := by omega
          rw [errV_pos A hk20]
          have HK20 := Lib.hid hk20
          clear hk2 hfn hfd hown7 hr7 hg7 hk20
          go_wp2_with fail
          refine (left_any A w.heap.size [] k2 w7 HR7.out).mono ?_
          rintro e w8 ⟨rfl, rfl⟩
          have dq : Hid (decide ((M.length : Int) ≤ (m : Int).tdiv 8) = true) := by
            show _ = _
            rw [Int.tdiv_eq_ediv_of_nonneg (by omega)]; simp only [decide_eq_true_eq]; simp at hcnt; omega
          clear hcnt
          go_wp2_with fail
          go_loopw [12] (StopRel A w.heap.size k2 w) (fun a _ => 10 - (intOf a).toNat)
          case atStart => exact ⟨0, by omega, rfl, HR7.out, HB7.out⟩
          case round =>
            obtain ⟨i, hi, rfl, hr, hb⟩ := hrel
            have HR := Lib.hid hr
            have HB := Lib.hid hb
            clear hr hb
            by_cases hlt : i < ln
            · by_cases h10 : i < 10
              · obtain ⟨b0, off, rfl, hB, hx⟩ := HLX.out (by omega)
                have hx0 := hx i 0 hlt (by omega)
                rw [show off + (i * 1 + 0) = off + i by omega] at hx0
                have g0 : wr.cell? ⟨b0, off + i, none⟩ = some (V i) := (HB.out.cell (p := ⟨b0, off + i, none⟩) hB).trans hx0
                have HV := Lib.hid (((HLS.out i hlt).below HB.out).more HB.out.size)
                have HVL := Lib.hid (HLL.out i hlt)
                clear hx hx0
                go_wp2_with fail
                refine (bytes_any _ (ls i) wr HV.out (by have := HVL.out; omega)).mono ?_
                rintro e w8 ⟨v8, rfl, hown, hb8⟩
                have HRa := Lib.hid (HR.out.below hb8)
                have HBa := Lib.hid (HB.out.trans (hb8.mono HB.out.size))
                have HSa := Lib.hid (Sl.of_own hown)
                clear hown hb8
                go_wp2_with fail
                refine (feed_any A allErrs H2 H3 H4 w.heap.size [] k2 _ (ls i) w8 (HE.out.to HBa.out HBa.out.size) HRa.out HSa.out (fun h => absurd h (by have := HK20.out; omega))).mono ?_
                rintro e w9 ⟨vl, rfl, hown9, hr9, hg9⟩
                have hfd : fed [] k2 (ls i) = ([], [], k2) := by unfold fed; rw [if_pos (by have := HK20.out; omega)]
                rw [hfd] at hown9 hr9 ⊢
                have HB9 := Lib.hid (below_of_only HBa.out hg9 HBa.out.size (Nat.le_refl _))
                have HR9 := Lib.hid hr9
                obtain ⟨A9, c9, rfl⟩ := own_slice' hown9
                rw [errV_pos A HK20.out]
                have hk16 : k2 ≤ 16 := by rcases HK2.out with h | h <;> omega
                have HK16 := Lib.hid hk16
                clear hown9 hr9 hg9 hfd hk16
                have hkind : ∀ w, Errs w w.heap.size allErrs A → Calls Tryd.prog 18 #[.iface 121 (.pointer (some (A k2)))] w fun e w' => e = .returned (.int .i64 k2) ∧ Below w.heap.size w w' := fun w h => by
                  have := kind_any A k2 HK16.out w h
                  rw [errV_pos A HK20.out] at this
                  exact this
                have HKD := Lib.hid hkind
                clear hkind
                go_wp2_with fail
                refine (HKD.out w9 (HE.out.to HB9.out HB9.out.size)).mono ?_
                rintro e wA ⟨rfl, hbA⟩
                have HBA := Lib.hid (HB9.out.trans (hbA.mono HB9.out.size))
                have HRA := Lib.hid (HR9.out.below hbA)
                clear hbA
                go_wp2_with fail
                refine (HKD.out wA (HE.out.to HBA.out HBA.out.size)).mono ?_
                rintro e wB ⟨rfl, hbB⟩
                have HBB := Lib.hid (HBA.out.trans (hbB.mono HBA.out.size))
                have HRB := Lib.hid (HRA.out.below hbB)
                clear hbB
                go_wp2_with fail
                refine (left_any A w.heap.size [] k2 wB HRB.out).mono ?_
                rintro e wC ⟨rfl, rfl⟩
                go_wp2_with fail
                go_roundw
                case rel => exact ⟨i + 1, by omega, by go_num, HRB.out, HBB.out⟩
                case measure => simp [intOf]; omega
              · have d8 := dq.out
                have d9 : decide ((M.length : Int) ≤ (m : Int) / 8) = true := by rw [← Int.tdiv_eq_ediv_of_nonneg (by omega)]; exact dq.out
                have d10 : M.length ≤ m / 8 := by simp at d9; omega
                go_wp2_with fail
                refine (w5awake_any A allErrs H2 H3 H4 wr (HE.out.to HB.out HB.out.size)).mono ?_
                rintro e w8 ⟨rfl, hb8⟩
                go_wp2
                go_ret
                exact ⟨rfl, HB.out.trans (hb8.mono HB.out.size)⟩
            · have d8 := dq.out
              have d9 : decide ((M.length : Int) ≤ (m : Int) / 8) = true := by rw [← Int.tdiv_eq_ediv_of_nonneg (by omega)]; exact dq.out
              have d10 : M.length ≤ m / 8 := by simp at d9; omega
              go_wp2_with fail
              refine (w5awake_any A allErrs H2 H3 H4 wr (HE.out.to HB.out HB.out.size)).mono ?_
              rintro e w8 ⟨rfl, hb8⟩
              go_wp2
              go_ret
              exact ⟨rfl, HB.out.trans (hb8.mono HB.out.size)⟩
        · have d1 : ((q : Int) != 0) = true := by rw [bne_iff_ne]; omega
          clear hq0
          go_wp2_with fail
          refine (w5awake_any A allErrs H2 H3 H4 w3 (HE.out.to HB3.out HB3.out.size)).mono ?_
          rintro e w4 ⟨rfl, hb4⟩
          go_wp2
          go_ret
          exact ⟨rfl, HB3.out.trans (hb4.mono HB3.out.size)⟩
      · rw [errV_pos A (by omega)]
        clear hk0
        go_wp2_with fail
        refine (w5awake_any A allErrs H2 H3 H4 w3 (HE.out.to HB3.out HB3.out.size)).mono ?_
        rintro e w4 ⟨rfl, hb4⟩
        go_wp2
        go_ret
        exact ⟨rfl, HB3.out.trans (hb4.mono HB3.out.size)⟩
end Go.Proofs.YtihbgkighckiiaaDoor
