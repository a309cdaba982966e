/- FaultApart: the walk. No condition but what is laid. -/
import Derived.Test.YtplegaadljbhoaaDoorFAwake
import Derived.Test.YtplegaadljbhoaaDoorLater
import Derived.OpenShut
namespace Go.Proofs.YtplegaadljbhoaaDoor
open Go.RowKit Go.Extern.Stop Go.Stop Go.Extern
set_option linter.unusedVariables false
set_option maxRecDepth 100000

set_option maxHeartbeats 1600000 in
theorem fapart_walk (A : Nat → Addr) (a b c kd : Int) (w : World) (hE : Errs w w.heap.size allErrs A) (hy : ETy w w.heap.size) (ha : (Lit.int .i64 a).wf = true) (hb : (Lit.int .i64 b).wf = true) (hc : (Lit.int .i64 c).wf = true) (hkd : (Lit.int .i64 kd).wf = true) :
    Calls Tryd.prog 5 #[.int .i64 a, .int .i64 b, .int .i64 c, .int .i64 kd] w fun e w' => e = .returned (.bool true) ∧ Below w.heap.size w w' := by
  have HE := Lib.hid hE
  have HY := Lib.hid hy
  clear hE hy ha hb hc hkd
  go_enter Tryd.func5, Tryd.ntmps5
  go_wp2_with fail
  refine (place_any kd 16 w (by omega) (by omega)).mono ?_
  rintro e w1 ⟨rfl, rfl⟩
  obtain ⟨i, hi⟩ : ∃ i : Nat, kd % 16 = (i : Int) := ⟨(kd % 16).toNat, by omega⟩
  have hi16 : i < 16 := by omega
  rw [hi]
  clear hi
  go_wp2_with fail
  refine (error_ok A i hi16 _ (by omega) w HE.out).mono ?_
  rintro e w1 ⟨rfl, hb1⟩
  have HB1 := Lib.hid hb1
  obtain ⟨k, hk⟩ : ∃ k, k = i + 1 := ⟨_, rfl⟩
  rw [← hk]
  have hk1 : 1 ≤ k := by omega
  have hk2 : k ≤ 16 := by omega
  clear hb1 hk hi16
  go_wp2_with fail
  refine (new_err A k hk1 hk2 a c w1 (HE.out.to HB1.out HB1.out.size)).mono ?_
  rintro e w2 ⟨rfl, hat2, hb2⟩
  have HB2 := Lib.hid (HB1.out.trans (hb2.mono HB1.out.size))
  obtain ⟨e1, he1⟩ : ∃ e1, e1 = EC.fault w1.heap.size a c (gtx k) (.base k) := ⟨_, rfl⟩
  rw [← he1] at hat2 ⊢
  have HA2 := Lib.hid hat2
  have HE1 := Lib.hid he1
  clear hat2 he1 hb2
  go_wp2_with fail
  refine (new_err A k hk1 hk2 b c w2 (HE.out.to HB2.out HB2.out.size)).mono ?_
  rintro e w3 ⟨rfl, hat3, hb3⟩
  have HB3 := Lib.hid (HB2.out.trans (hb3.mono HB2.out.size))
  have HA23 := Lib.hid ((HA2.out.below (Nat.le_refl _) hb3).more hb3.size)
  obtain ⟨e2, he2⟩ : ∃ e2, e2 = EC.fault w2.heap.size b c (gtx k) (.base k) := ⟨_, rfl⟩
  rw [← he2] at hat3 ⊢
  have HA3 := Lib.hid hat3
  have HE2 := Lib.hid he2
  clear hat3 he2 hb3
  go_wp2_with fail
  refine (of_any A e1 w3 (HY.out.to HB3.out HB3.out.size) HA23.out (by rw [HE1.out]; simp [EC.isNil])).mono ?_
  rintro e w4 ⟨rfl, hb4⟩
  have hof : ofR A e1 = .tuple #[.agg #[.int .i64 a, .int .i64 c, .string (gtx k), errV A k], .bool true] := by rw [HE1.out]; rfl
  rw [hof, errV_pos A (by omega)]
  clear hof
  have HB4 := Lib.hid ((HB3.out.trans (hb4.mono HB3.out.size)).alloc (HB3.out.trans (hb4.mono HB3.out.size)).size (.cells #[.int .i64 a, .int .i64 c, .string (gtx k), .iface 68 (.pointer (some (A k)))] 30))
  have hb5 := hb4.alloc hb4.size (.cells #[.int .i64 a, .int .i64 c, .string (gtx k), .iface 68 (.pointer (some (A k)))] 30)
  have HA24 := Lib.hid ((HA23.out.below (Nat.le_refl _) hb5).more hb5.size)
  have HA34 := Lib.hid ((HA3.out.below (Nat.le_refl _) hb5).more hb5.size)
  have HK4 := Lib.hid (Blk.new w4 30 #[.int .i64 a, .int .i64 c, .string (gtx k), .iface 68 (.pointer (some (A k)))])
  clear hb4 hb5
  go_upto_region 4 with (fail)
  generalize w4.alloc (.cells #[.int .i64 a, .int .i64 c, .string (gtx k), .iface 68 (.pointer (some (A k)))] 30) = w5 at HB4 HA24 HA34 HK4 ⊢
  obtain ⟨n1, hn1⟩ : ∃ n1, n1 = w4.heap.size := ⟨_, rfl⟩
  rw [← hn1] at HK4 ⊢
  clear hn1
  go_wp2_with fail
  refine (of_any A e2 w5 (HY.out.to HB4.out HB4.out.size) HA34.out (by rw [HE2.out]; simp [EC.isNil])).mono ?_
  rintro e w6 ⟨rfl, hb6⟩
  have hof : ofR A e2 = .tuple #[.agg #[.int .i64 b, .int .i64 c, .string (gtx k), errV A k], .bool true] := by rw [HE2.out]; rfl
  rw [hof, errV_pos A (by omega)]
  clear hof
  have hb7 := hb6.alloc hb6.size (.cells #[.int .i64 b, .int .i64 c, .string (gtx k), .iface 68 (.pointer (some (A k)))] 30)
  have HB7 := Lib.hid (HB4.out.trans (hb7.mono HB4.out.size))
  have HA27 := Lib.hid ((HA24.out.below (Nat.le_refl _) hb7).more hb7.size)
  have HA37 := Lib.hid ((HA34.out.below (Nat.le_refl _) hb7).more hb7.size)
  have HK47 := Lib.hid (HK4.out.below hb7 HK4.out.lt)
  have HK7 := Lib.hid (Blk.new w6 30 #[.int .i64 b, .int .i64 c, .string (gtx k), .iface 68 (.pointer (some (A k)))])
  clear hb6 hb7
  go_upto_region 5 with (fail)
  generalize w6.alloc (.cells #[.int .i64 b, .int .i64 c, .string (gtx k), .iface 68 (.pointer (some (A k)))] 30) = w7 at HB7 HA27 HA37 HK47 HK7 ⊢
  obtain ⟨n2, hn2⟩ : ∃ n2, n2 = w6.heap.size := ⟨_, rfl⟩
  rw [← hn2] at HK7 ⊢
  clear hn2
  have q0 : ∀ x : Later w7, x.w.cell? ⟨n1, 0, none⟩ = some (.int .i64 a) := fun x => x.cell (HK47.out.cell 0)
  have q1 : ∀ x : Later w7, x.w.cell? ⟨n1, 1, none⟩ = some (.int .i64 c) := fun x => x.cell (HK47.out.cell 1)
  have q2 : ∀ x : Later w7, x.w.cell? ⟨n1, 2, none⟩ = some (.string (gtx k)) := fun x => x.cell (HK47.out.cell 2)
  have p0 : ∀ x : Later w7, x.w.cell? ⟨n2, 0, none⟩ = some (.int .i64 b) := fun x => x.cell (HK7.out.cell 0)
  have p1 : ∀ x : Later w7, x.w.cell? ⟨n2, 1, none⟩ = some (.int .i64 c) := fun x => x.cell (HK7.out.cell 1)
  have hee := fun x : Later w7 => HE.out.to (HB7.out.trans (x.h.mono HB7.out.size)) (HB7.out.trans (x.h.mono HB7.out.size)).size
  have M1 : Hid (∀ x : Later w7, Calls Tryd.prog 56 #[.pointer (some (A k))] x.w fun e w' => e = .returned (.string (gtx k)) ∧ x.w = w') := fun x => etext_any A k hk1 hk2 x.w (hee x)
  have M2 : Hid (∀ x : Later w7, Calls Tryd.prog 18 #[e1.val A, .iface 68 (.pointer (some (A k)))] x.w fun e w' => e = .returned (.bool true) ∧ x.w = w') := fun x => by
    have := fis_any A e1 k hk1 hk2 x.w (hee x) ((HA27.out.below (Nat.le_refl _) x.h).more x.h.size) (by rw [HE1.out]; simp [EC.isNil])
    rwa [show decide (e1.root = k) = true by rw [HE1.out]; simp [EC.root]] at this
  have M3 : Hid (∀ x : Later w7, Calls Tryd.prog 18 #[e2.val A, .iface 68 (.pointer (some (A k)))] x.w fun e w' => e = .returned (.bool true) ∧ x.w = w') := fun x => by
    have := fis_any A e2 k hk1 hk2 x.w (hee x) ((HA37.out.below (Nat.le_refl _) x.h).more x.h.size) (by rw [HE2.out]; simp [EC.isNil])
    rwa [show decide (e2.root = k) = true by rw [HE2.out]; simp [EC.root]] at this
  have M4 : Hid (∀ x : Later w7, Calls Tryd.prog 8 #[] x.w fun e w' => e = .returned (.bool true) ∧ Below x.w.heap.size x.w w') := fun x => f2awake_any A x.w (hee x) (HY.out.to (HB7.out.trans (x.h.mono HB7.out.size)) (HB7.out.trans (x.h.mono HB7.out.size)).size)
  have mE := Tryd.errE
  generalize e1.val A = v1 at M2 ⊢
  generalize e2.val A = v2 at M3 ⊢
  clear hee HE1 HE2 HA2 HA3 HA23 HA24 HA34 HA27 HA37 HB1 HB2 HB3 HB4 HK4 HK47 HK7
  refine wp_region_later_lit (by kernel_rfl) (by kernel_rfl) ?_
  repeat (any_goals (go_big_quiet_step (first | with_reducible exact later_same (M1.out _) | with_reducible exact later_same (M2.out _) | with_reducible exact later_same (M3.out _) | with_reducible exact later_call (M4.out _))))
  refine wpQuiet_nil ?_
  intro _ hw'
  obtain ⟨x, hw''⟩ := hw'
  subst hw''
  go_wp2_with fail
  go_ret
  exact ⟨rfl, HB7.out.trans (x.h.mono HB7.out.size)⟩
end Go.Proofs.YtplegaadljbhoaaDoor
