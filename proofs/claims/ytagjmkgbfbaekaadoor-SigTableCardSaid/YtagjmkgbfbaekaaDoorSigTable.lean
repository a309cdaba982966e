/- The walk over tableaulaw03.SigTable (a closed statement). -/
import Derived.Test.YtagjmkgbfbaekaaDoorSigAll
namespace Go.Proofs.YtagjmkgbfbaekaaDoor
open Go.RowKit
set_option maxRecDepth 100000

def bitN (b : Bool) : Nat := if b then 1 else 0
def rowN (i o : Nat) : Nat := ((List.range o).map fun (o' : Nat) => bitN (reqOk ((i : Int) - 1) ((o' : Int) - 1))).sum
def rowM (i o : Nat) : Nat := ((List.range o).map fun (o' : Nat) => bitN (evOk ((i : Int) - 1) ((o' : Int) - 1))).sum
def tcN (i o : Nat) : Nat := ((List.range i).map fun (i' : Nat) => rowN i' 10).sum + rowN i o
def tcM (i o : Nat) : Nat := ((List.range i).map fun (i' : Nat) => rowM i' 10).sum + rowM i o
theorem tcN_zero : tcN 0 0 = 0 := rfl
theorem tcM_zero : tcM 0 0 = 0 := rfl
theorem tcN_op (i o : Nat) : tcN i (o + 1) = tcN i o + bitN (reqOk ((i : Int) - 1) ((o : Int) - 1)) := by simp [tcN, rowN, List.range_succ]; omega
theorem tcM_op (i o : Nat) : tcM i (o + 1) = tcM i o + bitN (evOk ((i : Int) - 1) ((o : Int) - 1)) := by simp [tcM, rowM, List.range_succ]; omega
theorem tcN_face (i : Nat) : tcN (i + 1) 0 = tcN i 10 := by simp [tcN, List.range_succ, rowN]
theorem tcM_face (i : Nat) : tcM (i + 1) 0 = tcM i 10 := by simp [tcM, List.range_succ, rowM]
theorem bitN_le (b : Bool) : bitN b ≤ 1 := by cases b <;> decide
theorem sum_le (f : Nat → Nat) (c : Nat) (hf : ∀ i, f i ≤ c) (n : Nat) : ((List.range n).map f).sum ≤ n * c := by
  induction n with
  | zero => simp
  | succ n ih => simp [List.range_succ]; have := hf n; rw [Nat.succ_mul]; omega
theorem rowN_le (i o : Nat) : rowN i o ≤ o := by have := sum_le (fun (o' : Nat) => bitN (reqOk ((i : Int) - 1) ((o' : Int) - 1))) 1 (fun _ => bitN_le _) o; unfold rowN; omega
theorem rowM_le (i o : Nat) : rowM i o ≤ o := by have := sum_le (fun (o' : Nat) => bitN (evOk ((i : Int) - 1) ((o' : Int) - 1))) 1 (fun _ => bitN_le _) o; unfold rowM; omega
theorem tcN_le (i o : Nat) : tcN i o ≤ i * 10 + o := by have := sum_le (fun (i' : Nat) => rowN i' 10) 10 (fun i => rowN_le i 10) i; have := rowN_le i o; unfold tcN; omega
theorem tcM_le (i o : Nat) : tcM i o ≤ i * 10 + o := by have := sum_le (fun (i' : Nat) => rowM i' 10) 10 (fun i => rowM_le i 10) i; have := rowM_le i o; unfold tcM; omega
theorem tcN_end : tcN 22 0 = 39 := by kernel_rfl
theorem tcM_end : tcM 22 0 = 18 := by kernel_rfl

def TabFace (w : World) (a b c : Value) (wr : World) : Prop := ∃ i : Nat, i ≤ 22 ∧ a = .int .i64 (tcN i 0) ∧ b = .int .i64 (tcM i 0) ∧ c = .int .i64 ((i : Int) - 1) ∧ Below w.heap.size w wr
def TabOp (w : World) (i : Nat) (a b c : Value) (wr : World) : Prop := ∃ o : Nat, o ≤ 10 ∧ a = .int .i64 (tcN i o) ∧ b = .int .i64 (tcM i o) ∧ c = .int .i64 ((o : Int) - 1) ∧ Below w.heap.size w wr

set_option maxHeartbeats 6400000 in
theorem table_walk (A : Nat → Addr) (w : World) (hE : Errs w w.heap.size [6] A) :
    Calls Tryd.prog 11 #[] w fun e w' => e = .returned (.bool true) ∧ Below w.heap.size w w' := by
  have h6 : 6 ∈ [6] := by simp
  have HE := Lib.hid hE
  clear hE
  go_enter Tryd.func11, Tryd.ntmps11
  go_wp2_with fail
  go_loopw [1, 2, 3] (TabFace w) (fun _ _ a _ => (21 - intOf a).toNat)
  case atStart => exact ⟨0, by omega, rfl, rfl, rfl, Below.refl _ _⟩
  case round =>
    obtain ⟨i, hi, rfl, rfl, rfl, hb⟩ := hrel
    have HB := Lib.hid hb
    clear hb
    obtain ⟨n0, hn0⟩ : ∃ n, n = tcN i 0 := ⟨_, rfl⟩
    obtain ⟨m0, hm0⟩ : ∃ n, n = tcM i 0 := ⟨_, rfl⟩
    have ln := tcN_le i 0
    have lm := tcM_le i 0
    rw [← hn0] at ln ⊢
    rw [← hm0] at lm ⊢
    have HN := Lib.hid hn0
    have HM := Lib.hid hm0
    clear hn0 hm0
    by_cases hlt : i < 22
    · have hle : decide ((i : Int) - 1 ≤ 20) = true := by simp; omega
      go_wp2_with fail
      go_loopw [1, 2, 4] (TabOp w i) (fun _ _ a _ => (9 - intOf a).toNat)
      case atStart => exact ⟨0, by omega, by rw [HN.out], by rw [HM.out], rfl, HB.out⟩
      case round =>
        obtain ⟨o, ho, rfl, rfl, rfl, hb⟩ := hrel
        have HB2 := Lib.hid hb
        clear hb ln lm
        obtain ⟨n, hn⟩ : ∃ n, n = tcN i o := ⟨_, rfl⟩
        obtain ⟨m, hm⟩ : ∃ n, n = tcM i o := ⟨_, rfl⟩
        have ln := tcN_le i o
        have lm := tcM_le i o
        have hno := Lib.hid (tcN_op i o)
        have hmo := Lib.hid (tcM_op i o)
        rw [← hn] at ln hno ⊢
        rw [← hm] at lm hmo ⊢
        have HN2 := Lib.hid hn
        have HM2 := Lib.hid hm
        clear hn hm
        by_cases hlo : o < 10
        · have hle2 : decide ((o : Int) - 1 ≤ 8) = true := by simp; omega
          obtain ⟨face, hface⟩ : ∃ f, f = (i : Int) - 1 := ⟨_, rfl⟩
          obtain ⟨op, hop⟩ : ∃ f, f = (o : Int) - 1 := ⟨_, rfl⟩
          rw [← hface, ← hop] at hno hmo ⊢
          rw [← hface] at hle
          rw [← hop] at hle2
          have hf1 : face ≤ 21 := by omega
          have hf2 : -1 ≤ face := by omega
          have ho1 : op ≤ 9 := by omega
          have ho2 : -1 ≤ op := by omega
          have HFA := Lib.hid hface
          have HOP := Lib.hid hop
          clear hface hop
          have hre : Hid (reqErr face op = if reqOk face op then 0 else 6) := rfl
          have hee : Hid (evErr face op = if evOk face op then 0 else 6) := rfl
          obtain ⟨rq, hrq⟩ : ∃ r, r = reqAt face op := ⟨_, rfl⟩
          obtain ⟨es, hes⟩ : ∃ r, r = evAt face op := ⟨_, rfl⟩
          obtain ⟨ke, hke⟩ : ∃ r, r = reqErr face op := ⟨_, rfl⟩
          obtain ⟨kf, hkf⟩ : ∃ r, r = evErr face op := ⟨_, rfl⟩
          rw [← hke] at hre
          rw [← hkf] at hee
          have RQ := Lib.hid hrq
          have ES := Lib.hid hes
          have KE := Lib.hid hke
          have KF := Lib.hid hkf
          clear hrq hes hke hkf
          go_wp2_with fail
          refine (request_any A [6] h6 face op wr (HE.out.to HB2.out HB2.out.size)).mono ?_
          rintro e w1 ⟨rfl, hb1⟩
          rw [← RQ.out, ← KE.out]
          have HB1 := Lib.hid (HB2.out.trans (hb1.mono HB2.out.size))
          clear hb1
          go_wp2_with fail
          refine (rrequest_any face op _).mono ?_
          rintro e w2 ⟨rfl, hb2⟩
          rw [← RQ.out]
          have HB3 := Lib.hid (HB1.out.trans (hb2.mono HB1.out.size))
          clear hb2
          go_wp2_with fail
          have hR : Hid (Blk (w2.alloc (.cells #[.string rq.1, .int .i64 rq.2.1, .bool rq.2.2] 75)) w2.heap.size 75 #[.string rq.1, .int .i64 rq.2.1, .bool rq.2.2]) := Blk.new _ _ _
          have HB4 : Hid (Below w.heap.size w (w2.alloc (.cells #[.string rq.1, .int .i64 rq.2.1, .bool rq.2.2] 75))) := HB3.out.alloc HB3.out.size _
          generalize (w2.alloc (.cells #[.string rq.1, .int .i64 rq.2.1, .bool rq.2.2] _)) = w3 at hR HB4 ⊢
          generalize w2.heap.size = g at hR ⊢
          refine (event_any A [6] h6 face op w3 (HE.out.to HB4.out HB4.out.size)).mono ?_
          rintro e w4 ⟨rfl, hb4⟩
          rw [← ES.out, ← KF.out]
          have hR4 := Lib.hid (hR.out.below hb4 hR.out.lt)
          have HB5 := Lib.hid (HB4.out.trans (hb4.mono HB4.out.size))
          clear hb4
          go_wp2_with fail
          refine (revent_any face op _).mono ?_
          rintro e w5 ⟨rfl, hb5⟩
          rw [← ES.out]
          have hR5 := Lib.hid (hR4.out.below hb5 hR4.out.lt)
          have HB6 := Lib.hid (HB5.out.trans (hb5.mono HB5.out.size))
          clear hb5
          obtain ⟨rb, hrb⟩ : ∃ r, r = reqOk face op := ⟨_, rfl⟩
          obtain ⟨eb, heb⟩ : ∃ r, r = evOk face op := ⟨_, rfl⟩
          rw [← hrb] at hre hno
          rw [← heb] at hee hmo
          rw [← hrb, ← heb]
          clear hrb heb
          have hc0 : ∀ x : Later w5, x.w.cell? ⟨g, 0, none⟩ = some (.string rq.1) := fun x => x.cell (hR5.out.cell 0)
          have hc1 : ∀ x : Later w5, x.w.cell? ⟨g, 1, none⟩ = some (.int .i64 rq.2.1) := fun x => x.cell (hR5.out.cell 1)
          have hc2 : ∀ x : Later w5, x.w.cell? ⟨g, 2, none⟩ = some (.bool rq.2.2) := fun x => x.cell (hR5.out.cell 2)
          have MK : Hid (∀ x : Later w5, Calls Tryd.prog 44 #[.int .i64 face, .int .i64 op] x.w fun e w' => e = .returned (.int .i64 rq.2.1) ∧ Below x.w.heap.size x.w w') := by
            intro x; rw [RQ.out]; exact makes_any face op x.w
          have EN : Hid (∀ x : Later w5, Calls Tryd.prog 45 #[.int .i64 face, .int .i64 op] x.w fun e w' => e = .returned (.bool rq.2.2) ∧ Below x.w.heap.size x.w w') := by
            intro x; rw [RQ.out]; exact ends_any face op x.w
          have eN : errV A 6 = .iface 120 (.pointer (some (A 6))) := errV_pos A (by omega)
          have eZ : errV A 0 = .nilIface := rfl
          rcases rb <;> rcases eb
          all_goals
            have e1 := hre.out
            have e2 := hee.out
            simp only [Bool.false_eq_true, if_true, if_false] at e1 e2
            subst e1 e2
            go_wp2_with fail
            refine wp_region_later_lit (by kernel_rfl) (by kernel_rfl) ?_
            repeat (any_goals (go_big_quiet_step (first
              | (go_at_call 44; exact later_call (MK.out _))
              | (go_at_call 45; exact later_call (EN.out _)))))
            refine wpQuiet_nil ?_
            intro _ hw'
            obtain ⟨x, hw''⟩ := hw'
            subst hw''
            go_wp2_with fail
            go_roundw
            case rel => exact ⟨o + 1, by omega, by rw [hno.out]; rfl, by rw [hmo.out]; rfl, by rw [HOP.out]; go_num, x.after HB6.out HB6.out.size⟩
            case measure => have := HOP.out; simp [intOf]; omega
        · have hle2 : decide ((o : Int) - 1 ≤ 8) = false := by simp; omega
          obtain rfl : o = 10 := by omega
          go_wp2_with fail
          go_roundw
          case rel => exact ⟨i + 1, by omega, by rw [tcN_face, HN2.out], by rw [tcM_face, HM2.out], by go_num, HB2.out⟩
          case measure => simp [intOf]; omega
    · obtain rfl : i = 22 := by omega
      obtain rfl : n0 = 39 := by rw [HN.out]; exact tcN_end
      obtain rfl : m0 = 18 := by rw [HM.out]; exact tcM_end
      go_wp2_with fail
      refine (sawake_any A [6] h6 wr (HE.out.to HB.out HB.out.size)).mono ?_
      rintro e w9 ⟨rfl, hb9⟩
      have HB9 := Lib.hid (HB.out.trans (hb9.mono HB.out.size))
      clear hb9
      go_wp2
      go_ret
      exact ⟨rfl, HB9.out⟩
end Go.Proofs.YtagjmkgbfbaekaaDoor
