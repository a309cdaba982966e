/- PingLates returns true for every input: who is asked is late behind more than three ticks, not ahead; who has answered is not. No condition. -/
import Derived.Test.YtnaagmjjnapklaaPing
namespace Go.Proofs.Ytnaagmjjnapklaa
open Go.RowKit

theorem xor_one_ne (s : Int) : bits .xor .i64 s 1 ≠ s := by
  intro h
  have h2 := congrArg (BitVec.ofInt 64) h
  have e : BitVec.ofInt 64 (bits .xor .i64 s 1) = BitVec.ofInt 64 s ^^^ 1#64 := by
    show BitVec.ofInt 64 (IntKind.i64.wrap ((BitVec.ofInt 64 s ^^^ BitVec.ofInt 64 1).toNat : Int)) = _
    rw [IntKind.wrap_i64]
    apply BitVec.eq_of_toNat_eq
    rw [BitVec.toNat_ofInt]
    have hlt := (BitVec.ofInt 64 s ^^^ 1#64).isLt
    have h1 : BitVec.ofInt 64 1 = 1#64 := rfl
    rw [h1]
    omega
  rw [e] at h2
  have h3 := congrArg (fun x => BitVec.ofInt 64 s ^^^ x) h2
  simp [← BitVec.xor_assoc] at h3

set_option maxHeartbeats 800000 in
theorem pingLates_any (serial tick n : Int) (answer : Bool) (w : World) :
    Calls Try.prog 4 #[.int .i64 serial, .int .i64 tick, .int .i64 n, .bool answer] w fun e w' => e = .returned (.bool true) ∧ Below w.heap.size w w' := by
  have t0 := Int.emod_nonneg tick (show (1099511627776 : Int) ≠ 0 by decide)
  have t1 := Int.emod_lt_of_pos tick (show (0 : Int) < 1099511627776 by decide)
  have k0 := Int.emod_nonneg n (show (10 : Int) ≠ 0 by decide)
  have k1 := Int.emod_lt_of_pos n (show (0 : Int) < 10 by decide)
  obtain ⟨t, ht⟩ : ∃ t, t = tick % 1099511627776 := ⟨_, rfl⟩
  obtain ⟨k, hk⟩ : ∃ k, k = n % 10 := ⟨_, rfl⟩
  rw [← ht] at t0 t1
  rw [← hk] at k0 k1
  have HT := Lib.hid ht
  have HK := Lib.hid hk
  clear ht hk
  have f1 : askB none = true := rfl
  have f2 : askB (some (serial, t)) = false := rfl
  have f3 : pongB (some (serial, t)) (bits .xor .i64 serial 1) = false := by simp [pongB]; exact fun h => xor_one_ne serial h.symm
  have f4 : pongS (some (serial, t)) (bits .xor .i64 serial 1) = some (serial, t) := by simp [pongS]; exact fun h => xor_one_ne serial h.symm
  have f5 : pongB (some (serial, t)) serial = true := by simp [pongB]
  have f6 : pongS (some (serial, t)) serial = none := by simp [pongS]
  have f7 : lateB (some (serial, t)) (t + k) = decide (3 < k) := by
    simp only [lateB, IntKind.wrap_u64]
    by_cases h : 3 < k
    · have e1 : decide (t < t + k) = true := by simp; omega
      have e2 : decide (3 < ((t + k) % 18446744073709551616 - t % 18446744073709551616) % 18446744073709551616) = true := by simp; omega
      simp only [e1, e2]; simp [h]
    · have e2 : decide (3 < ((t + k) % 18446744073709551616 - t % 18446744073709551616) % 18446744073709551616) = false := by simp; omega
      simp only [e2]; simp [h]
  have f8 : lateB (some (serial, t)) (t - 1) = false := by
    have e1 : decide (t < t - 1) = false := by simp; omega
    simp only [lateB, e1]; rfl
  have F := Lib.hid (And.intro f1 (And.intro f2 (And.intro f3 (And.intro f4 (And.intro f5 (And.intro f6 (And.intro f7 f8)))))))
  clear f1 f2 f3 f4 f5 f6 f7 f8
  go_enter Try.func4, Try.ntmps4
  go_wp2_with fail
  refine (place_any _ _ _ (by omega) (by omega)).mono ?_
  rintro e w1 ⟨rfl, rfl⟩
  rw [← HT.out]
  go_wp2_with fail
  refine (place_any _ _ _ (by omega) (by omega)).mono ?_
  rintro e w1 ⟨rfl, rfl⟩
  rw [← HK.out]
  go_wp2_with fail
  refine (new_any _).mono ?_
  rintro e w1 ⟨rfl, hp1, hb1⟩
  go_wp2_with fail
  refine (ask_any _ _ _ _ _ hp1).mono ?_
  rintro e w2 ⟨rfl, hp2, hg2⟩
  have hb2 := below_of_only hb1 hg2 hb1.size (Nat.le_refl _)
  have hp2' : PingIs w2 w.heap.size (some (serial, t)) := hp2
  rw [F.out.1]
  go_wp2_with fail
  refine (ask_any _ _ _ _ _ hp2').mono ?_
  rintro e w3 ⟨rfl, hp3, hg3⟩
  have hb3 := below_of_only hb2 hg3 hb2.size (Nat.le_refl _)
  have hp3' : PingIs w3 w.heap.size (some (serial, t)) := hp3
  rw [F.out.2.1]
  go_wp2_with fail
  refine (pong_any _ _ _ _ hp3').mono ?_
  rintro e w4 ⟨rfl, hp4, hg4⟩
  have hb4 := below_of_only hb3 hg4 hb3.size (Nat.le_refl _)
  rw [F.out.2.2.2.1] at hp4
  rw [F.out.2.2.1]
  cases answer with
  | true =>
    go_wp2_with fail
    refine (pong_any _ _ _ _ hp4).mono ?_
    rintro e w5 ⟨rfl, hp5, hg5⟩
    have hb5 := below_of_only hb4 hg5 hb4.size (Nat.le_refl _)
    rw [F.out.2.2.2.2.2.1] at hp5
    rw [F.out.2.2.2.2.1]
    go_wp2_with fail
    refine (late_any _ _ _ _ hp5).mono ?_
    rintro e w6 ⟨rfl, rfl⟩
    rw [show ∀ x, lateB none x = false from fun _ => rfl]
    go_wp2_with fail
    refine (late_any _ _ _ _ hp5).mono ?_
    rintro e w6 ⟨rfl, rfl⟩
    rw [show ∀ x, lateB none x = false from fun _ => rfl]
    go_wp2_with fail
    refine (pawake_any _).mono ?_
    rintro e w7 ⟨rfl, hb7⟩
    go_wp2_with fail
    go_ret
    exact ⟨rfl, hb5.trans (hb7.mono hb5.size)⟩
  | false =>
    go_wp2_with fail
    refine (late_any _ _ _ _ hp4).mono ?_
    rintro e w6 ⟨rfl, rfl⟩
    rw [F.out.2.2.2.2.2.2.1]
    cases hd : decide (3 < k)
    all_goals
      go_wp2_with fail
      refine (late_any _ _ _ _ hp4).mono ?_
      rintro e w6 ⟨rfl, rfl⟩
      rw [F.out.2.2.2.2.2.2.2]
      go_wp2_with fail
      refine (pawake_any _).mono ?_
      rintro e w7 ⟨rfl, hb7⟩
      go_wp2_with fail
      go_ret
      exact ⟨rfl, hb4.trans (hb7.mono hb4.size)⟩
theorem pingRow (a0 a1 a2 : Int) (a3 : Bool) (w : World) (_ : (Lit.int .i64 a0).wf = true) (_ : (Lit.int .i64 a1).wf = true) (_ : (Lit.int .i64 a2).wf = true) :
    Calls Try.prog 4 #[.int .i64 a0, .int .i64 a1, .int .i64 a2, .bool a3] w fun e w' => e = .returned (.bool true) ∧ Below w.heap.size w w' := pingLates_any a0 a1 a2 a3 w
end Go.Proofs.Ytnaagmjjnapklaa
