/- The walk over tableaulaw03.SigAll. -/
import Derived.Test.YtagjmkgbfbaekaaDoorSigRef2
import Derived.Test.YtagjmkgbfbaekaaDoorSigNames
import Derived.Test.YtagjmkgbfbaekaaDoorLater
namespace Go.Proofs.YtagjmkgbfbaekaaDoor
open Go.RowKit
set_option maxRecDepth 100000

theorem reqErr_le (f o : Int) : reqErr f o ≤ 16 := by unfold reqErr; split <;> omega
theorem evErr_le (f o : Int) : evErr f o ≤ 16 := by unfold evErr; split <;> omega

set_option maxHeartbeats 6400000 in
theorem all_walk (A : Nat → Addr) (face op : Int) (s : ByteArray) (w : World) (hE : Errs w w.heap.size allErrs A) (_ : (Lit.int .i64 face).wf = true) (_ : (Lit.int .i64 op).wf = true) (hs : s.size ≤ 140737488351232) :
    Calls Tryd.prog 13 #[.int .i64 face, .int .i64 op, .string s] w fun e w' => e = .returned (.bool true) ∧ Below w.heap.size w w' := by
  have h6 : 6 ∈ allErrs := by decide
  have HE := Lib.hid hE
  obtain ⟨n, hn⟩ : ∃ n, n = s.size := ⟨_, rfl⟩
  have hn2 : n ≤ 140737488351232 := by omega
  clear hE
  by_cases hl : 200 < s.size
  · have hd : decide (200 < (s.size : Int)) = true := by simp; omega
    clear hn
    go_enter Tryd.func13, Tryd.ntmps13
    go_wp2_with fail
    refine (sawake_any A allErrs h6 w HE.out).mono ?_
    rintro e w1 ⟨rfl, hb1⟩
    go_wp2
    go_ret
    exact ⟨rfl, hb1⟩
  · have hd : decide (200 < (s.size : Int)) = false := by simp; omega
    have hre : Hid (reqErr face op = if reqOk face op then 0 else 6) := rfl
    have hee : Hid (evErr face op = if evOk face op then 0 else 6) := rfl
    obtain ⟨rq, hrq⟩ : ∃ r, r = reqAt face op := ⟨_, rfl⟩
    obtain ⟨es, hes⟩ : ∃ r, r = evAt face op := ⟨_, rfl⟩
    obtain ⟨ke, hke⟩ : ∃ r, r = reqErr face op := ⟨_, rfl⟩
    obtain ⟨kf, hkf⟩ : ∃ r, r = evErr face op := ⟨_, rfl⟩
    have kle := reqErr_le face op
    have fle := evErr_le face op
    rw [← hke] at kle hre
    rw [← hkf] at fle hee
    have RQ := Lib.hid hrq
    have ES := Lib.hid hes
    have KE := Lib.hid hke
    have KF := Lib.hid hkf
    clear hn hrq hes hke hkf
    go_enter Tryd.func13, Tryd.ntmps13
    go_wp2_with fail
    refine (request_any A allErrs h6 face op w HE.out).mono ?_
    rintro e w1 ⟨rfl, hb1⟩
    rw [← RQ.out, ← KE.out]
    have HB1 := Lib.hid hb1
    clear hb1
    go_wp2_with fail
    refine (rrequest_any face op _).mono ?_
    rintro e w2 ⟨rfl, hb2⟩
    rw [← RQ.out]
    have HB2 := Lib.hid (HB1.out.trans (hb2.mono HB1.out.size))
    clear hb2
    go_wp2_with fail
    have hR : Hid (Blk (w2.alloc (.cells #[.string rq.1, .int .i64 rq.2.1, .bool rq.2.2] 75)) w2.heap.size 75 #[.string rq.1, .int .i64 rq.2.1, .bool rq.2.2]) := Blk.new _ _ _
    have HB3 : Hid (Below w.heap.size w (w2.alloc (.cells #[.string rq.1, .int .i64 rq.2.1, .bool rq.2.2] 75))) := HB2.out.alloc HB2.out.size _
    generalize (w2.alloc (.cells #[.string rq.1, .int .i64 rq.2.1, .bool rq.2.2] _)) = w3 at hR HB3 ⊢
    generalize w2.heap.size = g at hR ⊢
    refine (event_any A allErrs h6 face op w3 (HE.out.to HB3.out HB3.out.size)).mono ?_
    rintro e w4 ⟨rfl, hb4⟩
    rw [← ES.out, ← KF.out]
    have hR4 := Lib.hid (hR.out.below hb4 hR.out.lt)
    have HB4 := Lib.hid (HB3.out.trans (hb4.mono HB3.out.size))
    clear hb4
    go_wp2_with fail
    refine (revent_any face op _).mono ?_
    rintro e w5 ⟨rfl, hb5⟩
    rw [← ES.out]
    have hR5 := Lib.hid (hR4.out.below hb5 hR4.out.lt)
    have HB5 := Lib.hid (HB4.out.trans (hb5.mono HB4.out.size))
    clear hb5
    obtain ⟨rb, hrb⟩ : ∃ r, r = reqOk face op := ⟨_, rfl⟩
    obtain ⟨eb, heb⟩ : ∃ r, r = evOk face op := ⟨_, rfl⟩
    rw [← hrb] at hre
    rw [← heb] at hee
    rw [← hrb, ← heb]
    clear hrb heb
    have hc0 : ∀ x : Later w5, x.w.cell? ⟨g, 0, none⟩ = some (.string rq.1) := fun x => x.cell (hR5.out.cell 0)
    have hc1 : ∀ x : Later w5, x.w.cell? ⟨g, 1, none⟩ = some (.int .i64 rq.2.1) := fun x => x.cell (hR5.out.cell 1)
    have hc2 : ∀ x : Later w5, x.w.cell? ⟨g, 2, none⟩ = some (.bool rq.2.2) := fun x => x.cell (hR5.out.cell 2)
    have HL : Hid (∀ x : Later w5, Errs x.w x.w.heap.size allErrs A) := fun x => HE.out.to (x.after HB5.out HB5.out.size) (x.after HB5.out HB5.out.size).size
    have MK : Hid (∀ x : Later w5, Calls Tryd.prog 44 #[.int .i64 face, .int .i64 op] x.w fun e w' => e = .returned (.int .i64 rq.2.1) ∧ Below x.w.heap.size x.w w') := by
      intro x; rw [RQ.out]; exact makes_any face op x.w
    have EN : Hid (∀ x : Later w5, Calls Tryd.prog 45 #[.int .i64 face, .int .i64 op] x.w fun e w' => e = .returned (.bool rq.2.2) ∧ Below x.w.heap.size x.w w') := by
      intro x; rw [RQ.out]; exact ends_any face op x.w
    rcases rb <;> rcases eb
    all_goals
      have e1 := hre.out
      have e2 := hee.out
      simp only [Bool.false_eq_true, if_true, if_false] at e1 e2
      subst e1 e2
      go_wp2_with fail
      refine wp_region_later_lit (by kernel_rfl) (by kernel_rfl) ?_
      repeat (any_goals (go_big_quiet_step (first
        | (go_at_call 23; exact later_call (kind_any A _ (by omega) _ (HL.out _)))
        | (go_at_call 44; exact later_call (MK.out _))
        | (go_at_call 45; exact later_call (EN.out _))
        | (go_at_call 47; exact later_call (name_any face _))
        | (go_at_call 48; exact later_call (rname_any face _))
        | (go_at_call 46; exact later_call (face_any s _))
        | (go_at_call 49; exact later_call (rface_any s _))
        | (go_at_call 41; exact later_call (sawake_any A allErrs h6 _ (HL.out _))))))
      refine wpQuiet_nil ?_
      intro _ hw'
      obtain ⟨x, hw''⟩ := hw'
      subst hw''
      go_wp2_with fail
      go_ret
      exact ⟨rfl, x.after HB5.out HB5.out.size⟩
end Go.Proofs.YtagjmkgbfbaekaaDoor
