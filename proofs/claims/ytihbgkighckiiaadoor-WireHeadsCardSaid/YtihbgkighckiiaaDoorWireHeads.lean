/- The walk over tableaulaw04.WireHeads. -/
import Derived.Test.YtihbgkighckiiaaDoorWAwake
import Derived.Test.YtihbgkighckiiaaDoorAppKeep
import Derived.Test.YtihbgkighckiiaaDoorHead
import Derived.Test.YtihbgkighckiiaaDoorEnc
import Derived.OpenShut
namespace Go.Proofs.YtihbgkighckiiaaDoor
open Go.RowKit
set_option maxRecDepth 100000

theorem own_later {w w' : World} {B n s : Nat} {e : TypeId} {v : Value} {xs : List Value} (h : w.ownsRow B e s v n xs) (hb : Below w.heap.size w w') : w'.ownsRow B e s v n xs :=
  h.kept (only_of_below hb none) (Classical.em _)

set_option maxHeartbeats 6400000 in
theorem wheads_walk (A : Nat → Addr) (x y z : Int) (vm : Value) (more : List UInt8) (w : World) (hE : Errs w w.heap.size allErrs A) (hx : (Lit.int .u32 x).wf = true) (hy : (Lit.int .u16 y).wf = true) (hz : (Lit.int .u16 z).wf = true) (hm : Sl w w.heap.size vm (bv more) ∧ more.length ≤ 140737488351232) :
    Calls Tryd.prog 4 #[.int .u32 x, .int .u16 y, .int .u16 z, vm] w fun e w' => e = .returned (.bool true) ∧ Below w.heap.size w w' := by
  have x01 : 0 ≤ x ∧ x < 4294967296 := by have := bounds_u32 hx; omega
  have y01 : 0 ≤ y ∧ y < 65536 := by have := bounds_u16 hy; omega
  have z01 : 0 ≤ z ∧ z < 65536 := by have := bounds_u16 hz; omega
  obtain ⟨x0, x1⟩ := x01
  obtain ⟨y0, y1⟩ := y01
  obtain ⟨z0, z1⟩ := z01
  obtain ⟨hm, hml⟩ := hm
  have HE := Lib.hid hE
  have HM := Lib.hid hm
  obtain ⟨m, hmm⟩ : ∃ m, m = more.length := ⟨_, rfl⟩
  rw [← hmm] at hml
  have HML := Lib.hid hmm
  obtain ⟨v, hv⟩ : ∃ v, v = z * 65536 + y := ⟨_, rfl⟩
  have hv0 : 0 ≤ v := by omega
  have hv1 : v < 4294967296 := by omega
  obtain ⟨X, hX⟩ : ∃ X, X = le4 x ++ le4 v := ⟨_, rfl⟩
  have hXl : X.length = 8 := by rw [hX, List.length_append, le4_length, le4_length]
  have l0 : leV (X ++ more) 0 = x := by rw [hX, List.append_assoc]; exact leV_le4 x _ x0 x1
  have l4 : leV (X ++ more) 4 = v := by rw [hX, List.append_assoc]; exact leV_at (le4 x) v more hv0 hv1
  have hh : headE (X ++ more) = if z < 8 ∨ z % 4 ≠ 0 then 3 else if 4096 < z then 4 else 0 := by
    unfold headE
    rw [if_neg (by rw [List.length_append]; omega), l4, show v / 65536 = z by omega]
  have h7 : Hid (headE (X.take 7) = 2) := by show _ = _; unfold headE; rw [if_pos (by rw [List.length_take]; omega)]
  have hok := Lib.hid (fun h : headE (X ++ more) = 0 => head_ok h)
  have herr := Lib.hid (fun (k : Nat) (h : headE (X ++ more) = k) (hk : k ≠ 0) => head_err h hk)
  have L0 := Lib.hid l0
  have L4 : Hid (leV (X ++ more) 4 % 65536 = y ∧ leV (X ++ more) 4 / 65536 = z) := by rw [l4]; exact ⟨by omega, by omega⟩
  have HH := Lib.hid hh
  have HV := Lib.hid hv
  have HX := Lib.hid hX
  have HXL := Lib.hid hXl
  have h7e : Hid (headO (X.take 7) = 0 ∧ headP (X.take 7) = 0 ∧ headN (X.take 7) = 0) := head_err h7.out (by omega)
  obtain ⟨i8, hi8, hz8, hs18, hby8⟩ := info_parts Tryd.infoU8
  obtain ⟨_, MA, mc, rfl, hmc, hmcm, _, _⟩ := hm
  rw [bv_length, ← hmm] at hmc HM
  rw [bv_length, ← hmm]
  unfold maxLen at hmcm
  have H1 : (1 : Nat) ∈ allErrs := mem_all 1 (by omega) (by omega)
  have H2 : (2 : Nat) ∈ allErrs := mem_all 2 (by omega) (by omega)
  have H3 : (3 : Nat) ∈ allErrs := mem_all 3 (by omega) (by omega)
  have H4 : (4 : Nat) ∈ allErrs := mem_all 4 (by omega) (by omega)
  clear hE hmm hv hX hXl l0 l4 hh hx hy hz
  go_enter Tryd.func4, Tryd.ntmps4
  go_wp2_with fail
  refine (rput_any x w x0 x1).mono ?_
  rintro e w1 ⟨rfl, hblk, hb1⟩
  have HO1 := Lib.hid (own_blk hblk (Nat.le_refl w.heap.size) (by rw [bv_length, le4_length]) (by unfold maxLen; omega))
  have HB1 := Lib.hid hb1
  clear hblk hb1
  go_wp2_with fail
  rw [← HV.out]
  refine (rput_any v w1 hv0 hv1).mono ?_
  rintro e w2 ⟨rfl, hblk, hb2⟩
  have HO2 := Lib.hid (own_later HO1.out hb2)
  have HB2 := Lib.hid (HB1.out.trans (hb2.mono HB1.out.size))
  have HS2 : Hid (SlN w2 w2.heap.size 1 (.slice (some ⟨w1.heap.size, 0, none⟩) 4 4) 4 (bv (le4 v))) := SlN.of_own (own_blk hblk (Nat.zero_le _) (by rw [bv_length, le4_length]) (by unfold maxLen; omega))
  clear hblk hb2
  go_upto_region 3 with (
    at_builtin
    refine wpList_app rfl _ _ _ _ rfl _ _ rfl rfl (fun v' w' => Hid (w'.ownsRow w.heap.size 5 1 v' (4 + 4) (bv (le4 x) ++ bv (le4 v)) ∧ Below w.heap.size w2 w')) ?hrun ?_
    case hrun =>
      obtain ⟨v', w', hr, h2, h3⟩ := run_app_own (ty := 30) Tryd.underlying30 hi8 hz8 hs18 rfl HO2.out HS2.out (bv_one _) HB2.out.size ⟨by omega, .inr hby8⟩
      exact ⟨v', w', hr, h2, h3⟩
    intro v3 w3 hR3)
  have ho3 : w3.ownsRow w.heap.size 5 1 v3 8 (bv X) := by rw [HX.out, bv_append]; exact hR3.out.1
  have HO3 := Lib.hid ho3
  have HB3 := Lib.hid (HB2.out.trans hR3.out.2)
  obtain ⟨A3, c3, rfl, hc3, hcm3⟩ := own_form ho3
  unfold maxLen at hcm3
  have HM3 := Lib.hid ((HM.out.below HB3.out).more HB3.out.size)
  clear ho3 hR3 HO1 HO2 HS2 HB1 HB2
  go_upto_region 4 with (first
    | (at_builtin
       refine wpList_app rfl _ _ _ _ rfl _ _ rfl rfl (fun v' w' => Hid (w'.ownsRow w.heap.size 5 1 v' (8 + m) (bv X ++ bv more) ∧ Below w.heap.size w3 w' ∧ SlN w' w'.heap.size 1 (.slice A3 8 c3) 8 (bv X))) ?hrun2 ?_
       case hrun2 =>
         have hs : SlN w3 w3.heap.size 1 (.slice MA m mc) m (bv more) := by have := HM3.out; unfold Sl at this; rwa [bv_length, ← HML.out] at this
         exact run_app_keep (ty := 30) Tryd.underlying30 hi8 hz8 hs18 rfl HO3.out hs (bv_one _) HB3.out.size ⟨by omega, .inr hby8⟩
       intro v4 w4 hR4
       have HB4 := Lib.hid (HB3.out.trans hR4.out.2.1)
       have hs4 := Sl.of_own hR4.out.1
       rw [← bv_append] at hs4
       have HS4 := Lib.hid hs4
       have HK4 := Lib.hid hR4.out.2.2
       clear hR4 hs4)
    | (go_at_call 17
       refine (head_any A allErrs _ _ _ HS4.out (HE.out.to HB4.out HB4.out.size) H2 H3 H4).mono ?_
       rintro e w5 ⟨rfl, hb5⟩
       have HB5 := Lib.hid (HB4.out.trans (hb5.mono HB4.out.size))
       have HK5 := Lib.hid ((SlN.below HK4.out hb5).more hb5.size)
       clear hb5))
  have hca : z < 8 ∨ (8 ≤ z ∧ z % 4 ≠ 0) ∨ (8 ≤ z ∧ z % 4 = 0 ∧ 4096 < z) ∨ (8 ≤ z ∧ z % 4 = 0 ∧ z ≤ 4096) := by omega
  rcases hca with h5 | ⟨h5, h6⟩ | ⟨h5, h6, h7'⟩ | ⟨h5, h6, h7'⟩
  · have hE3 : headE (X ++ more) = 3 := by rw [HH.out, if_pos (by omega)]
    obtain ⟨q1, q2, q3⟩ := herr.out 3 hE3 (by omega)
    rw [hE3, q1, q2, q3]
    clear hE3 q1 q2 q3
    have d1 : decide (z < 8) = true := by simpa using h5
    clear h5
    go_wp2_with fail
    refine (kind_any A 3 (by omega) w5 (HE.out.to HB5.out HB5.out.size)).mono ?_
    rintro e w6 ⟨rfl, hb6⟩
    have HB6 := Lib.hid (HB5.out.trans (hb6.mono HB5.out.size))
    clear hb6
    go_wp2_with fail
    refine (w4awake_any A allErrs H1 H4 w6 (HE.out.to HB6.out HB6.out.size)).mono ?_
    rintro e w7 ⟨rfl, hb7⟩
    go_wp2
    go_ret
    exact ⟨rfl, HB6.out.trans (hb7.mono HB6.out.size)⟩
  · have hE3 : headE (X ++ more) = 3 := by rw [HH.out, if_pos (by omega)]
    obtain ⟨q1, q2, q3⟩ := herr.out 3 hE3 (by omega)
    rw [hE3, q1, q2, q3]
    clear hE3 q1 q2 q3
    have d1 : decide (z < 8) = false := by simpa using h5
    have d2 : (z % 4 != 0) = true := by simpa using h6
    clear h5 h6
    go_wp2_with fail
    refine (kind_any A 3 (by omega) w5 (HE.out.to HB5.out HB5.out.size)).mono ?_
    rintro e w6 ⟨rfl, hb6⟩
    have HB6 := Lib.hid (HB5.out.trans (hb6.mono HB5.out.size))
    clear hb6
    go_wp2_with fail
    refine (w4awake_any A allErrs H1 H4 w6 (HE.out.to HB6.out HB6.out.size)).mono ?_
    rintro e w7 ⟨rfl, hb7⟩
    go_wp2
    go_ret
    exact ⟨rfl, HB6.out.trans (hb7.mono HB6.out.size)⟩
  · have hE3 : headE (X ++ more) = 4 := by rw [HH.out, if_neg (by omega), if_pos h7']
    obtain ⟨q1, q2, q3⟩ := herr.out 4 hE3 (by omega)
    rw [hE3, q1, q2, q3]
    clear hE3 q1 q2 q3
    have d1 : decide (z < 8) = false := by simpa using h5
    have d2 : (z % 4 != 0) = false := by simpa using h6
    have d3 : decide (4096 < z) = true := by simpa using h7'
    clear h5 h6 h7'
    go_wp2_with fail
    refine (kind_any A 4 (by omega) w5 (HE.out.to HB5.out HB5.out.size)).mono ?_
    rintro e w6 ⟨rfl, hb6⟩
    have HB6 := Lib.hid (HB5.out.trans (hb6.mono HB5.out.size))
    clear hb6
    go_wp2_with fail
    refine (w4awake_any A allErrs H1 H4 w6 (HE.out.to HB6.out HB6.out.size)).mono ?_
    rintro e w7 ⟨rfl, hb7⟩
    go_wp2
    go_ret
    exact ⟨rfl, HB6.out.trans (hb7.mono HB6.out.size)⟩
  · have hE3 : headE (X ++ more) = 0 := by rw [HH.out, if_neg (by omega), if_neg (by omega)]
    obtain ⟨q1, q2, q3⟩ := hok.out hE3
    rw [L0.out] at q1
    rw [L4.out.1] at q2
    rw [L4.out.2] at q3
    rw [hE3, q1, q2, q3, errV_zero]
    clear hE3 q1 q2 q3
    have d1 : decide (z < 8) = false := by simpa using h5
    have d2 : (z % 4 != 0) = false := by simpa using h6
    have d3 : decide (4096 < z) = false := by simpa using h7'
    clear h5 h6 h7'
    have hs7 : Sl w5 w5.heap.size (.slice A3 7 c3) (bv (X.take 7)) := by
      have h1 := HK5.out
      have e : bv X = bv (X.take 7) ++ bv (X.drop 7) := by rw [← bv_append, List.take_append_drop]
      rw [e] at h1
      have hl : (bv (X.take 7)).length = 7 := by rw [bv_length, List.length_take, HXL.out]; rfl
      have := SlN.prefix_ (n := 7) (m := 1) h1 hl
      show SlN _ _ _ _ _ _
      rw [hl]; exact this
    have HS7 := Lib.hid hs7
    clear hs7
    go_wp2_with fail
    refine (head_any A allErrs _ _ _ HS7.out (HE.out.to HB5.out HB5.out.size) H2 H3 H4).mono ?_
    rintro e w6 ⟨rfl, hb6⟩
    have HB6 := Lib.hid (HB5.out.trans (hb6.mono HB5.out.size))
    clear hb6
    rw [h7.out]
    go_wp2_with fail
    refine (kind_any A 2 (by omega) w6 (HE.out.to HB6.out HB6.out.size)).mono ?_
    rintro e w7 ⟨rfl, hb7⟩
    have HB7 := Lib.hid (HB6.out.trans (hb7.mono HB6.out.size))
    clear hb7
    go_wp2_with fail
    refine (w4awake_any A allErrs H1 H4 w7 (HE.out.to HB7.out HB7.out.size)).mono ?_
    rintro e w8 ⟨rfl, hb8⟩
    go_wp2
    go_ret
    exact ⟨rfl, HB7.out.trans (hb8.mono HB7.out.size)⟩
end Go.Proofs.YtihbgkighckiiaaDoor
