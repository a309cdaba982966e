/- FaultAll: the walk, of nil and of an error. No condition but what is laid. -/
import Derived.Test.YtplegaadljbhoaaDoorFCode
import Derived.Test.YtplegaadljbhoaaDoorLater
import Derived.OpenShut
namespace Go.Proofs.YtplegaadljbhoaaDoor
open Go.RowKit Go.Extern.Stop Go.Stop Go.Extern
set_option linter.unusedVariables false
set_option maxRecDepth 100000

def WrapRel (A : Nat → Addr) (w : World) (k t : Nat) (o c : Int) (e i : Value) (wr : World) : Prop :=
  ∃ x : EC, e = x.val A ∧ x.At A wr wr.heap.size ∧ ¬ x.isNil ∧ x.root = k ∧ ofR A x = .tuple #[.agg #[.int .i64 o, .int .i64 c, .string (gtx k), errV A k], .bool true] ∧ Below w.heap.size w wr ∧ ∃ j : Nat, j ≤ t ∧ i = .int .i64 (j : Int)

set_option maxHeartbeats 3200000 in
theorem fall_nil (A : Nat → Addr) (kd o c ti : Int) (s : ByteArray) (w : World) (hE : Errs w w.heap.size allErrs A) (hy : ETy w w.heap.size) (hs : s.size ≤ 200)
    (herr : Calls Tryd.prog 9 #[.int .i64 kd] w fun e w' => e = .returned .nilIface ∧ Below w.heap.size w w') :
    Calls Tryd.prog 6 #[.int .i64 kd, .int .i64 o, .int .i64 c, .int .i64 ti, .string s] w fun e w' => e = .returned (.bool true) ∧ Below w.heap.size w w' := by
  have HE := Lib.hid hE
  have HY := Lib.hid hy
  have HR := Lib.hid herr
  clear hE hy herr
  have d1 : decide (200 < (s.size : Int)) = false := by simp; omega
  obtain ⟨t, ht⟩ : ∃ t : Nat, ti % 6 = (t : Int) := ⟨(ti % 6).toNat, by omega⟩
  have ht6 : t < 6 := by omega
  have HP : Hid (∀ w' : World, Calls Tryd.prog 10 #[.int .i64 ti, .int .i64 6] w' fun e w2 => e = .returned (.int .i64 (t : Int)) ∧ w' = w2) := fun w' => by
    have := place_any ti 6 w' (by omega) (by omega)
    rw [ht] at this
    exact this
  clear ht
  go_enter Tryd.func6, Tryd.ntmps6
  go_wp2_with fail
  refine HR.out.mono ?_
  rintro e w1 ⟨rfl, hb1⟩
  have HB1 := Lib.hid hb1
  clear hb1
  go_wp2_with fail
  refine (kind_any A 0 (by omega) w1 (HE.out.to HB1.out HB1.out.size)).mono ?_
  rintro e w2 ⟨rfl, hb2⟩
  have HB2 := Lib.hid (HB1.out.trans (hb2.mono HB1.out.size))
  clear hb2 HB1
  go_wp2_with fail
  refine (new_nil A o c w2).mono ?_
  rintro e w3 ⟨rfl, hat3, hb3⟩
  have HB3 := Lib.hid (HB2.out.trans (hb3.mono HB2.out.size))
  obtain ⟨e1, he1⟩ : ∃ e1, e1 = EC.fault w2.heap.size o c ⟨#[]⟩ (.base 0) := ⟨_, rfl⟩
  rw [← he1] at hat3 ⊢
  have HW0 : Hid (WrapRel A w 0 t o c (e1.val A) (.int .i64 0) w3) := ⟨e1, rfl, hat3, by rw [he1]; simp [EC.isNil], by rw [he1]; rfl, by rw [he1]; rfl, HB3.out, 0, by omega, rfl⟩
  clear hat3 hb3 he1 HB2 HB3
  generalize e1.val A = v1 at HW0 ⊢
  go_wp2_with fail
  go_loopw [13, 14] (WrapRel A w 0 t o c) (fun _ i _ => t - (intOf i).toNat)
  case atStart => exact HW0.out
  case round =>
    obtain ⟨x, rfl, hat, hn, hr, hof, hbl, j, hj, rfl⟩ := hrel
    have HX := Lib.hid (And.intro hat (And.intro hn (And.intro hr (And.intro hof hbl))))
    clear hat hn hr hof hbl
    by_cases hjt : j < t
    · have d4 : decide ((j : Int) < (t : Int)) = true := by simp; omega
      have d5 : (j : Int) < (t : Int) := by omega
      go_wp2_with fail
      refine (HP.out _).mono ?_
      rintro e w4 ⟨rfl, rfl⟩
      go_wp2_with fail
      refine (wrap_any A x s _ HX.out.1 HX.out.2.1).mono ?_
      rintro e w5 ⟨rfl, hat5, hb5⟩
      have HX5 := Lib.hid (And.intro hat5 hb5)
      clear hat5 hb5
      generalize hx5 : EC.wrap _ s x = x5 at HX5 ⊢
      have HXE := Lib.hid hx5
      clear hx5
      go_wp2_with fail
      go_roundw
      case rel => exact ⟨x5, rfl, HX5.out.1, by rw [← HXE.out]; simp [EC.isNil], by rw [← HXE.out]; exact HX.out.2.2.1, by rw [← HXE.out]; exact HX.out.2.2.2.1, HX.out.2.2.2.2.trans (HX5.out.2.mono HX.out.2.2.2.2.size), j + 1, by omega, by go_num⟩
      case measure => simp [intOf]; omega
    · have d4 : decide ((j : Int) < (t : Int)) = false := by simp; omega
      have d5 : ¬ (j : Int) < (t : Int) := by omega
      go_wp2_with fail
      refine (HP.out _).mono ?_
      rintro e w4 ⟨rfl, rfl⟩
      go_wp2_with fail
      refine (of_any A x wr (HY.out.to HX.out.2.2.2.2 HX.out.2.2.2.2.size) HX.out.1 HX.out.2.1).mono ?_
      rintro e w6 ⟨rfl, hb6⟩
      have hof : ofR A x = .tuple #[.agg #[.int .i64 o, .int .i64 c, .string ⟨#[]⟩, .nilIface], .bool true] := by rw [HX.out.2.2.2.1]; rfl
      rw [hof]
      clear hof
      have hb7 := hb6.alloc hb6.size (.cells #[.int .i64 o, .int .i64 c, .string ⟨#[]⟩, .nilIface] 30)
      have HB7 := Lib.hid (HX.out.2.2.2.2.trans (hb7.mono HX.out.2.2.2.2.size))
      have HA7 := Lib.hid ((HX.out.1.below (Nat.le_refl _) hb7).more hb7.size)
      have HK7 := Lib.hid (Blk.new w6 30 #[.int .i64 o, .int .i64 c, .string ⟨#[]⟩, .nilIface])
      clear hb6 hb7
      go_upto_region 11 with (fail)
      obtain ⟨g, hg⟩ : ∃ g, g = w6.heap.size := ⟨_, rfl⟩
      rw [← hg] at HK7 ⊢
      generalize w6.alloc (.cells #[.int .i64 o, .int .i64 c, .string ⟨#[]⟩, .nilIface] 30) = w7 at HB7 HA7 HK7 ⊢
      clear hg
      have q0 : ∀ z : Later w7, z.w.cell? ⟨g, 0, none⟩ = some (.int .i64 o) := fun z => z.cell (HK7.out.cell 0)
      have q1 : ∀ z : Later w7, z.w.cell? ⟨g, 1, none⟩ = some (.int .i64 c) := fun z => z.cell (HK7.out.cell 1)
      have q2 : ∀ z : Later w7, z.w.cell? ⟨g, 2, none⟩ = some (.string ⟨#[]⟩) := fun z => z.cell (HK7.out.cell 2)
      have q3 : ∀ z : Later w7, z.w.cell? ⟨g, 3, none⟩ = some (.nilIface) := fun z => z.cell (HK7.out.cell 3)
      have hee : ∀ w', Below w7.heap.size w7 w' → Errs w' w'.heap.size allErrs A := fun w' h => HE.out.to (HB7.out.trans (h.mono HB7.out.size)) (HB7.out.trans (h.mono HB7.out.size)).size
      have hyy : ∀ w', Below w7.heap.size w7 w' → ETy w' w'.heap.size := fun w' h => HY.out.to (HB7.out.trans (h.mono HB7.out.size)) (HB7.out.trans (h.mono HB7.out.size)).size
      have M1 : Hid (∀ z : Later w7, Calls Tryd.prog 20 #[.int .i64 0] z.w fun e w' => e = .returned (.string ⟨#[]⟩) ∧ Below z.w.heap.size z.w w') := fun z => rtext_any 0 (by omega) z.w
      have M2 : Hid (∀ z : Later w7, Calls Tryd.prog 19 #[.nilIface] z.w fun e w' => e = .returned (.int .i64 0) ∧ Below z.w.heap.size z.w w') := fun z => kind_nil A z.w (hee z.w z.h)
      have HEE := Lib.hid hee
      have HYY := Lib.hid hyy
      have HXV : Hid (x.root = 0 ∧ ¬ x.isNil) := ⟨HX.out.2.2.1, HX.out.2.1⟩
      have HKE : Hid (∀ w', Below w7.heap.size w7 w' → Calls Tryd.prog 17 #[x.val A] w' fun e w2 => e = .returned (.int .i64 17) ∧ Below w'.heap.size w' w2) := fun w' h => by
        have := fkind_any A x w' (HEE.out w' h) ((HA7.out.below (Nat.le_refl _) h).more h.size) HXV.out.2
        have hkr : kindR x = 17 := by unfold kindR; rw [HXV.out.1]; rfl
        rw [hkr] at this
        exact this
      have HCW : Hid (∀ w', Below w7.heap.size w7 w' → Calls Tryd.prog 21 #[.nilIface] w' fun e w2 => e = .returned (.int .i64 10) ∧ Below w'.heap.size w' w2) := fun w' h =>
        code_gen A _ 0 (by omega) w' (HEE.out w' h) (fun w'' h' => (fkind_nil w'').mono fun e w2 ⟨h1, h2⟩ => ⟨h1, by rw [← h2]; exact Below.refl _ _⟩)
      clear hee hyy HX HR HK7 HA7 HW0
      generalize x.val A = vx at HKE ⊢
      refine wp_region_later_lit (by kernel_rfl) (by kernel_rfl) ?_
      repeat (any_goals (go_big_quiet_step (first | with_reducible exact later_call (M1.out _) | with_reducible exact later_call (M2.out _))))
      refine wpQuiet_nil ?_
      intro _ hw'
      obtain ⟨z, hw''⟩ := hw'
      subst hw''
      clear M1 M2 q0 q1 q2 q3
      go_wp2_with fail
      refine (HCW.out z.w z.h).mono ?_
      rintro e w8 ⟨rfl, hb8⟩
      have HB8 := Lib.hid (z.h.trans (hb8.mono z.h.size))
      clear hb8
      go_wp2_with fail
      refine (rcode_any 0 (by omega) w8).mono ?_
      rintro e w9 ⟨rfl, rfl⟩
      go_wp2_with fail
      refine (fkind_nil w8).mono ?_
      rintro e w9 ⟨rfl, rfl⟩
      go_wp2_with fail
      refine (HKE.out w8 HB8.out).mono ?_
      rintro e w10 ⟨rfl, hb10⟩
      have HB10 := Lib.hid (HB8.out.trans (hb10.mono HB8.out.size))
      clear hb10
      go_wp2_with fail
      refine (f2awake_any A w10 (HEE.out w10 HB10.out) (HYY.out w10 HB10.out)).mono ?_
      rintro e w11 ⟨rfl, hb11⟩
      go_wp2_with fail
      go_ret
      exact ⟨rfl, HB7.out.trans ((HB10.out.trans (hb11.mono HB10.out.size)).mono HB7.out.size)⟩

set_option maxHeartbeats 3200000 in
theorem fall_pos (A : Nat → Addr) (k : Nat) (hk1 : 1 ≤ k) (hk2 : k ≤ 16) (kd o c ti : Int) (s : ByteArray) (w : World) (hE : Errs w w.heap.size allErrs A) (hy : ETy w w.heap.size) (hs : s.size ≤ 200)
    (herr : Calls Tryd.prog 9 #[.int .i64 kd] w fun e w' => e = .returned (.iface 68 (.pointer (some (A k)))) ∧ Below w.heap.size w w') :
    Calls Tryd.prog 6 #[.int .i64 kd, .int .i64 o, .int .i64 c, .int .i64 ti, .string s] w fun e w' => e = .returned (.bool true) ∧ Below w.heap.size w w' := by
  have HE := Lib.hid hE
  have HY := Lib.hid hy
  have HR := Lib.hid herr
  clear hE hy herr
  have d1 : decide (200 < (s.size : Int)) = false := by simp; omega
  have d2 : decide ((k : Int) = 0) = false := by simp; omega
  have d3 : ¬ ((k : Int) = 0) := by omega
  obtain ⟨t, ht⟩ : ∃ t : Nat, ti % 6 = (t : Int) := ⟨(ti % 6).toNat, by omega⟩
  have ht6 : t < 6 := by omega
  have HP : Hid (∀ w' : World, Calls Tryd.prog 10 #[.int .i64 ti, .int .i64 6] w' fun e w2 => e = .returned (.int .i64 (t : Int)) ∧ w' = w2) := fun w' => by
    have := place_any ti 6 w' (by omega) (by omega)
    rw [ht] at this
    exact this
  clear ht
  go_enter Tryd.func6, Tryd.ntmps6
  go_wp2_with fail
  refine HR.out.mono ?_
  rintro e w1 ⟨rfl, hb1⟩
  have HB1 := Lib.hid hb1
  clear hb1
  go_wp2_with fail
  refine (kind_err A k hk1 hk2 w1 (HE.out.to HB1.out HB1.out.size)).mono ?_
  rintro e w2 ⟨rfl, hb2⟩
  have HB2 := Lib.hid (HB1.out.trans (hb2.mono HB1.out.size))
  clear hb2 HB1
  go_wp2_with fail
  refine (new_err A k hk1 hk2 o c w2 (HE.out.to HB2.out HB2.out.size)).mono ?_
  rintro e w3 ⟨rfl, hat3, hb3⟩
  have HB3 := Lib.hid (HB2.out.trans (hb3.mono HB2.out.size))
  obtain ⟨e1, he1⟩ : ∃ e1, e1 = EC.fault w2.heap.size o c (gtx k) (.base k) := ⟨_, rfl⟩
  rw [← he1] at hat3 ⊢
  have HW0 : Hid (WrapRel A w k t o c (e1.val A) (.int .i64 0) w3) := ⟨e1, rfl, hat3, by rw [he1]; simp [EC.isNil], by rw [he1]; rfl, by rw [he1]; rfl, HB3.out, 0, by omega, rfl⟩
  clear hat3 hb3 he1 HB2 HB3
  generalize e1.val A = v1 at HW0 ⊢
  go_wp2_with fail
  go_loopw [13, 14] (WrapRel A w k t o c) (fun _ i _ => t - (intOf i).toNat)
  case atStart => exact HW0.out
  case round =>
    obtain ⟨x, rfl, hat, hn, hr, hof, hbl, j, hj, rfl⟩ := hrel
    have HX := Lib.hid (And.intro hat (And.intro hn (And.intro hr (And.intro hof hbl))))
    clear hat hn hr hof hbl
    by_cases hjt : j < t
    · have d4 : decide ((j : Int) < (t : Int)) = true := by simp; omega
      have d5 : (j : Int) < (t : Int) := by omega
      go_wp2_with fail
      refine (HP.out _).mono ?_
      rintro e w4 ⟨rfl, rfl⟩
      go_wp2_with fail
      refine (wrap_any A x s _ HX.out.1 HX.out.2.1).mono ?_
      rintro e w5 ⟨rfl, hat5, hb5⟩
      have HX5 := Lib.hid (And.intro hat5 hb5)
      clear hat5 hb5
      generalize hx5 : EC.wrap _ s x = x5 at HX5 ⊢
      have HXE := Lib.hid hx5
      clear hx5
      go_wp2_with fail
      go_roundw
      case rel => exact ⟨x5, rfl, HX5.out.1, by rw [← HXE.out]; simp [EC.isNil], by rw [← HXE.out]; exact HX.out.2.2.1, by rw [← HXE.out]; exact HX.out.2.2.2.1, HX.out.2.2.2.2.trans (HX5.out.2.mono HX.out.2.2.2.2.size), j + 1, by omega, by go_num⟩
      case measure => simp [intOf]; omega
    · have d4 : decide ((j : Int) < (t : Int)) = false := by simp; omega
      have d5 : ¬ (j : Int) < (t : Int) := by omega
      go_wp2_with fail
      refine (HP.out _).mono ?_
      rintro e w4 ⟨rfl, rfl⟩
      go_wp2_with fail
      refine (of_any A x wr (HY.out.to HX.out.2.2.2.2 HX.out.2.2.2.2.size) HX.out.1 HX.out.2.1).mono ?_
      rintro e w6 ⟨rfl, hb6⟩
      have hof : ofR A x = .tuple #[.agg #[.int .i64 o, .int .i64 c, .string (gtx k), (.iface 68 (.pointer (some (A k))))], .bool true] := by rw [HX.out.2.2.2.1]; rw [errV_pos A (by omega)]
      rw [hof]
      clear hof
      have hb7 := hb6.alloc hb6.size (.cells #[.int .i64 o, .int .i64 c, .string (gtx k), (.iface 68 (.pointer (some (A k))))] 30)
      have HB7 := Lib.hid (HX.out.2.2.2.2.trans (hb7.mono HX.out.2.2.2.2.size))
      have HA7 := Lib.hid ((HX.out.1.below (Nat.le_refl _) hb7).more hb7.size)
      have HK7 := Lib.hid (Blk.new w6 30 #[.int .i64 o, .int .i64 c, .string (gtx k), (.iface 68 (.pointer (some (A k))))])
      clear hb6 hb7
      go_upto_region 11 with (fail)
      obtain ⟨g, hg⟩ : ∃ g, g = w6.heap.size := ⟨_, rfl⟩
      rw [← hg] at HK7 ⊢
      generalize w6.alloc (.cells #[.int .i64 o, .int .i64 c, .string (gtx k), (.iface 68 (.pointer (some (A k))))] 30) = w7 at HB7 HA7 HK7 ⊢
      clear hg
      have q0 : ∀ z : Later w7, z.w.cell? ⟨g, 0, none⟩ = some (.int .i64 o) := fun z => z.cell (HK7.out.cell 0)
      have q1 : ∀ z : Later w7, z.w.cell? ⟨g, 1, none⟩ = some (.int .i64 c) := fun z => z.cell (HK7.out.cell 1)
      have q2 : ∀ z : Later w7, z.w.cell? ⟨g, 2, none⟩ = some (.string (gtx k)) := fun z => z.cell (HK7.out.cell 2)
      have q3 : ∀ z : Later w7, z.w.cell? ⟨g, 3, none⟩ = some (.iface 68 (.pointer (some (A k)))) := fun z => z.cell (HK7.out.cell 3)
      have hee : ∀ w', Below w7.heap.size w7 w' → Errs w' w'.heap.size allErrs A := fun w' h => HE.out.to (HB7.out.trans (h.mono HB7.out.size)) (HB7.out.trans (h.mono HB7.out.size)).size
      have hyy : ∀ w', Below w7.heap.size w7 w' → ETy w' w'.heap.size := fun w' h => HY.out.to (HB7.out.trans (h.mono HB7.out.size)) (HB7.out.trans (h.mono HB7.out.size)).size
      have M1 : Hid (∀ z : Later w7, Calls Tryd.prog 20 #[.int .i64 (k : Int)] z.w fun e w' => e = .returned (.string (gtx k)) ∧ Below z.w.heap.size z.w w') := fun z => rtext_any k hk2 z.w
      have M2 : Hid (∀ z : Later w7, Calls Tryd.prog 19 #[(.iface 68 (.pointer (some (A k))))] z.w fun e w' => e = .returned (.int .i64 (k : Int)) ∧ Below z.w.heap.size z.w w') := fun z => kind_err A k hk1 hk2 z.w (hee z.w z.h)
      have HEE := Lib.hid hee
      have HYY := Lib.hid hyy
      have HXV : Hid (x.root = k ∧ ¬ x.isNil) := ⟨HX.out.2.2.1, HX.out.2.1⟩
      have HKE : Hid (∀ w', Below w7.heap.size w7 w' → Calls Tryd.prog 17 #[x.val A] w' fun e w2 => e = .returned (.int .i64 (k : Int)) ∧ Below w'.heap.size w' w2) := fun w' h => by
        have := fkind_any A x w' (HEE.out w' h) ((HA7.out.below (Nat.le_refl _) h).more h.size) HXV.out.2
        have hkr : kindR x = k := by unfold kindR; rw [HXV.out.1]; rw [if_neg (by omega)]
        rw [hkr] at this
        exact this
      have HKW : Hid (∀ w', Below w7.heap.size w7 w' → Calls Tryd.prog 17 #[(.iface 68 (.pointer (some (A k))))] w' fun e w2 => e = .returned (.int .i64 (k : Int)) ∧ Below w'.heap.size w' w2) := fun w' h => by
        have := fkind_any A (.base k) w' (HEE.out w' h) (show k ≤ 16 from hk2) (show ¬ k = 0 by omega)
        have hkr : kindR (.base k) = k := by show (if k = 0 then 17 else k) = k; rw [if_neg (by omega)]
        rw [hkr, show (EC.base k).val A = (.iface 68 (.pointer (some (A k)))) from errV_pos A (by omega)] at this
        exact this
      have HCW : Hid (∀ w', Below w7.heap.size w7 w' → Calls Tryd.prog 21 #[(.iface 68 (.pointer (some (A k))))] w' fun e w2 => e = .returned (.int .i64 (codeR k)) ∧ Below w'.heap.size w' w2) := fun w' h =>
        code_gen A _ k (by omega) w' (HEE.out w' h) (fun w'' h' => HKW.out w'' (h.trans (h'.mono h.size)))
      have HIS : Hid (∀ w', Below w7.heap.size w7 w' → Calls Tryd.prog 18 #[x.val A, (.iface 68 (.pointer (some (A k))))] w' fun e w2 => e = .returned (.bool true) ∧ w' = w2) := fun w' h => by
        have := fis_any A x k hk1 hk2 w' (HEE.out w' h) ((HA7.out.below (Nat.le_refl _) h).more h.size) HXV.out.2
        rw [HXV.out.1, show decide (k = k) = true by simp] at this
        exact this
      have HES : Hid (∀ w', Below w7.heap.size w7 w' → Calls Tryd.prog 16 #[x.val A, (.iface 68 (.pointer (some (A k))))] w' fun e w2 => e = .returned (.bool true) ∧ w' = w2) := fun w' h => by
        have := is_any A x k hk1 hk2 w' (HEE.out w' h) ((HA7.out.below (Nat.le_refl _) h).more h.size) HXV.out.2
        rw [HXV.out.1, show decide (k = k) = true by simp] at this
        exact this
      clear hee hyy HX HR HK7 HA7 HW0
      generalize x.val A = vx at HKE HIS HES ⊢
      refine wp_region_later_lit (by kernel_rfl) (by kernel_rfl) ?_
      repeat (any_goals (go_big_quiet_step (first | with_reducible exact later_call (M1.out _) | with_reducible exact later_call (M2.out _))))
      refine wpQuiet_nil ?_
      intro _ hw'
      obtain ⟨z, hw''⟩ := hw'
      subst hw''
      clear M1 M2 q0 q1 q2 q3
      go_wp2_with fail
      refine (HCW.out z.w z.h).mono ?_
      rintro e w8 ⟨rfl, hb8⟩
      have HB8 := Lib.hid (z.h.trans (hb8.mono z.h.size))
      clear hb8
      go_wp2_with fail
      refine (rcode_any k hk2 w8).mono ?_
      rintro e w9 ⟨rfl, rfl⟩
      go_wp2_with fail
      refine (HKW.out w8 HB8.out).mono ?_
      rintro e w9 ⟨rfl, hb9⟩
      have HB9 := Lib.hid (HB8.out.trans (hb9.mono HB8.out.size))
      clear hb9
      go_wp2_with fail
      refine (HKE.out w9 HB9.out).mono ?_
      rintro e w10 ⟨rfl, hb10⟩
      have HB10 := Lib.hid (HB9.out.trans (hb10.mono HB9.out.size))
      clear hb10
      go_wp2_with fail
      refine (HIS.out w10 HB10.out).mono ?_
      rintro e w11 ⟨rfl, rfl⟩
      go_wp2_with fail
      refine (HES.out w10 HB10.out).mono ?_
      rintro e w11 ⟨rfl, rfl⟩
      go_wp2_with fail
      refine (f2awake_any A w10 (HEE.out w10 HB10.out) (HYY.out w10 HB10.out)).mono ?_
      rintro e w11 ⟨rfl, hb11⟩
      go_wp2_with fail
      go_ret
      exact ⟨rfl, HB7.out.trans ((HB10.out.trans (hb11.mono HB10.out.size)).mono HB7.out.size)⟩

theorem fall_walk (A : Nat → Addr) (kd o c ti : Int) (s : ByteArray) (w : World) (hE : Errs w w.heap.size allErrs A) (hy : ETy w w.heap.size) (hkd : (Lit.int .i64 kd).wf = true) (ho : (Lit.int .i64 o).wf = true) (hc : (Lit.int .i64 c).wf = true) (hti : (Lit.int .i64 ti).wf = true) (hs : s.size ≤ 140737488351232) :
    Calls Tryd.prog 6 #[.int .i64 kd, .int .i64 o, .int .i64 c, .int .i64 ti, .string s] w fun e w' => e = .returned (.bool true) ∧ Below w.heap.size w w' := by
  by_cases hsa : 200 < s.size
  · have d1 : decide (200 < (s.size : Int)) = true := by simp; omega
    have HE := Lib.hid hE
    have HY := Lib.hid hy
    clear hE hy hkd ho hc hti hs
    go_enter Tryd.func6, Tryd.ntmps6
    go_wp2_with fail
    refine (f2awake_any A w HE.out HY.out).mono ?_
    rintro e w1 ⟨rfl, hb1⟩
    go_wp2_with fail
    go_ret
    exact ⟨rfl, hb1⟩
  obtain ⟨k, hk, herr⟩ := error_any A kd w hE
  rcases Nat.eq_zero_or_pos k with rfl | h1
  · exact fall_nil A kd o c ti s w hE hy (by omega) herr
  · rw [errV_pos A h1] at herr
    exact fall_pos A k h1 hk kd o c ti s w hE hy (by omega) herr
end Go.Proofs.YtplegaadljbhoaaDoor
