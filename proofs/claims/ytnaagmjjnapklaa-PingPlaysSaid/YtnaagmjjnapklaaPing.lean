/- The contracts of package ping and of its reference: what each call answers and what it leaves, for a Ping that is told by 'PingIs' (nothing waits, or a serial and its tick). No condition. -/
import Derived.Test.YtnaagmjjnapklaaBase
import Derived.Test.YtnaagmjjnapklaaPl
import Derived.Test.YtnaagmjjnapklaaChecked
import Derived.Deep.QuietTactic
import Derived.BigQuiet
import Derived.Outline
namespace Go.Proofs.Ytnaagmjjnapklaa
open Go.RowKit

/-- What a Ping in block g holds: nothing waits, or a serial since a tick. -/
def PingIs (w : World) (g : Nat) : Option (Int × Int) → Prop
  | none => Blk w g 47 #[.pointer none]
  | some (s, t) => ∃ h, h ≠ g ∧ Blk w g 47 #[.pointer (some ⟨h, 0, none⟩)] ∧ Blk w h 49 #[.int .i64 s, .int .i64 t]
theorem PingIs.lt {w : World} {g : Nat} {st : Option (Int × Int)} (h : PingIs w g st) : g < w.heap.size := by
  rcases st with _ | ⟨s, t⟩
  · exact Blk.lt h
  · obtain ⟨_, _, h, _⟩ := h; exact h.lt

set_option maxHeartbeats 400000 in
theorem new_any (w : World) : Calls Try.prog 11 #[] w fun e w' => e = .returned (.pointer (some ⟨w.heap.size, 0, none⟩)) ∧ PingIs w' w.heap.size none ∧ Below w.heap.size w w' := by
  go_enter Try.func11, Try.ntmps11
  go_wp2
  go_ret
  exact ⟨rfl, Blk.new _ _ _, (Below.refl _ _).alloc (Nat.le_refl _) _⟩

set_option maxHeartbeats 400000 in
theorem ask_none (g : Nat) (s t : Int) (w : World) (h : PingIs w g none) :
    Calls Try.prog 12 #[.pointer (some ⟨g, 0, none⟩), .int .i64 s, .int .i64 t] w fun e w' => e = .returned (.bool true) ∧ PingIs w' g (some (s, t)) ∧ w.grownBy w' (some g) := by
  have hc := Blk.cell h 0
  have hf := Blk.frozen h 0
  have hl := Blk.lt h
  simp at hc
  go_enter Try.func12, Try.ntmps12
  go_wp2
  go_ret
  exact ⟨rfl, ⟨w.heap.size, by omega, by simpa using (Blk.set_ h 0 (.pointer (some ⟨w.heap.size, 0, none⟩))).alloc _, by simpa [World.setCell] using Blk.new (w.setCell ⟨g, 0, none⟩ (.pointer (some ⟨w.heap.size, 0, none⟩))) _ _⟩, only_alloc (only_set (only_refl _ _) _ _) _⟩

set_option maxHeartbeats 400000 in
theorem ask_some (g : Nat) (s0 t0 s t : Int) (w : World) (h : PingIs w g (some (s0, t0))) :
    Calls Try.prog 12 #[.pointer (some ⟨g, 0, none⟩), .int .i64 s, .int .i64 t] w fun e w' => e = .returned (.bool false) ∧ w = w' := by
  obtain ⟨b, hne, hg, hb⟩ := h
  have hc := hg.cell 0
  simp at hc
  go_enter Try.func12, Try.ntmps12
  go_wp2
  go_ret
  exact ⟨rfl, rfl⟩

set_option maxHeartbeats 400000 in
theorem pong_none (g : Nat) (s : Int) (w : World) (h : PingIs w g none) :
    Calls Try.prog 13 #[.pointer (some ⟨g, 0, none⟩), .int .i64 s] w fun e w' => e = .returned (.bool false) ∧ ∃ n, w' = w.drewN n := by
  have hc := Blk.cell h 0
  simp at hc
  go_enter Try.func13, Try.ntmps13
  go_wp2
  go_quiet (fail)
  all_goals (try go_wp2)
  all_goals (go_ret; exact ⟨rfl, _, rfl⟩)

/-- What is left behind an answer; what an asking leaves. -/
def pongS (st : Option (Int × Int)) (s : Int) : Option (Int × Int) := match st with | none => none | some (s0, t0) => if s0 = s then none else some (s0, t0)
def pongB (st : Option (Int × Int)) (s : Int) : Bool := match st with | none => false | some (s0, _) => decide (s0 = s)
def askS (st : Option (Int × Int)) (s t : Int) : Option (Int × Int) := match st with | none => some (s, t) | some x => some x
def askB (st : Option (Int × Int)) : Bool := st.isNone
def lateB (st : Option (Int × Int)) (t : Int) : Bool := match st with | none => false | some (_, t0) => decide (t0 < t) && decide (3 < IntKind.u64.wrap (IntKind.u64.wrap t - IntKind.u64.wrap t0))
def serS (st : Option (Int × Int)) : Int := match st with | none => 0 | some (s, _) => s

set_option maxHeartbeats 400000 in
theorem pong_hit (g : Nat) (s t0 : Int) (w : World) (h : PingIs w g (some (s, t0))) :
    Calls Try.prog 13 #[.pointer (some ⟨g, 0, none⟩), .int .i64 s] w fun e w' => e = .returned (.bool true) ∧ PingIs w' g none ∧ w.grownBy w' (some g) := by
  obtain ⟨b, hne, hg, hb⟩ := h
  have hc := hg.cell 0
  have hf := hg.frozen 0
  have hl := hg.lt
  have hc0 := hb.cell 0
  have hc1 := hb.cell 1
  have h1 : (s == s) = true := beq_self_eq_true s
  have h2 : (t0 == t0) = true := beq_self_eq_true t0
  simp at hc hc0 hc1
  go_enter Try.func13, Try.ntmps13
  go_wp2
  go_quiet (fail)
  all_goals (try go_wp2)
  all_goals go_ret
  all_goals first | contradiction | exact ⟨rfl, by simpa [PingIs] using (hg.drewN _).set_ 0 (.pointer none), only_set (only_drewN (only_refl _ _) _) _ _⟩

set_option maxHeartbeats 400000 in
theorem pong_miss (g : Nat) (s0 t0 s : Int) (w : World) (h : PingIs w g (some (s0, t0))) (hs : s0 ≠ s) :
    Calls Try.prog 13 #[.pointer (some ⟨g, 0, none⟩), .int .i64 s] w fun e w' => e = .returned (.bool false) ∧ ∃ n, w' = w.drewN n := by
  obtain ⟨b, hne, hg, hb⟩ := h
  have hc := hg.cell 0
  have hf := hg.frozen 0
  have hl := hg.lt
  have hc0 := hb.cell 0
  have hc1 := hb.cell 1
  have h1 : (s0 == s) = false := beq_eq_false_iff_ne.2 hs
  simp at hc hc0 hc1
  clear hs
  go_enter Try.func13, Try.ntmps13
  go_wp2
  go_quiet (fail)
  all_goals (try go_wp2)
  all_goals go_ret
  all_goals exact ⟨rfl, _, rfl⟩

theorem PingIs.drewN {w : World} {g : Nat} {st : Option (Int × Int)} (h : PingIs w g st) (n : Nat) : PingIs (w.drewN n) g st := by
  rcases st with _ | ⟨s, t⟩
  · exact Blk.drewN h n
  · obtain ⟨b, hne, hg, hb⟩ := h
    exact ⟨b, hne, hg.drewN n, hb.drewN n⟩

/-- Pong, whatever waits. -/
theorem pong_any (g : Nat) (st : Option (Int × Int)) (s : Int) (w : World) (h : PingIs w g st) :
    Calls Try.prog 13 #[.pointer (some ⟨g, 0, none⟩), .int .i64 s] w fun e w' => e = .returned (.bool (pongB st s)) ∧ PingIs w' g (pongS st s) ∧ w.grownBy w' (some g) := by
  rcases st with _ | ⟨s0, t0⟩
  · exact (pong_none g s w h).mono fun e w' ⟨he, n, hw⟩ => ⟨he, by subst hw; exact h.drewN n, by subst hw; exact only_drewN (only_refl _ _) n⟩
  · by_cases hs : s0 = s
    · subst hs
      refine (pong_hit g s0 t0 w h).mono fun e w' ⟨he, hp, hg⟩ => ⟨by simpa [pongB] using he, by simpa [pongS] using hp, hg⟩
    · exact (pong_miss g s0 t0 s w h hs).mono fun e w' ⟨he, n, hw⟩ => ⟨by simpa [pongB, hs] using he, by subst hw; simpa [pongS, hs] using h.drewN n, by subst hw; exact only_drewN (only_refl _ _) n⟩
theorem ask_any (g : Nat) (st : Option (Int × Int)) (s t : Int) (w : World) (h : PingIs w g st) :
    Calls Try.prog 12 #[.pointer (some ⟨g, 0, none⟩), .int .i64 s, .int .i64 t] w fun e w' => e = .returned (.bool (askB st)) ∧ PingIs w' g (askS st s t) ∧ w.grownBy w' (some g) := by
  rcases st with _ | ⟨s0, t0⟩
  · exact ask_none g s t w h
  · exact (ask_some g s0 t0 s t w h).mono fun e w' ⟨he, hw⟩ => ⟨he, by subst hw; exact h, by subst hw; exact only_refl _ _⟩

set_option maxHeartbeats 400000 in
theorem waits_any (g : Nat) (st : Option (Int × Int)) (w : World) (h : PingIs w g st) :
    Calls Try.prog 19 #[.pointer (some ⟨g, 0, none⟩)] w fun e w' => e = .returned (.tuple #[.int .i64 (serS st), .bool st.isSome]) ∧ w = w' := by
  rcases st with _ | ⟨s0, t0⟩
  · have hc := Blk.cell h 0
    simp at hc
    go_enter Try.func19, Try.ntmps19
    go_wp2
    go_ret2
    exact ⟨rfl, rfl⟩
  · obtain ⟨b, hne, hg, hb⟩ := h
    have hc := hg.cell 0
    have hc0 := hb.cell 0
    simp at hc hc0
    go_enter Try.func19, Try.ntmps19
    go_wp2
    go_ret2
    exact ⟨rfl, rfl⟩

set_option maxHeartbeats 400000 in
theorem late_none (g : Nat) (t : Int) (w : World) (h : PingIs w g none) :
    Calls Try.prog 14 #[.pointer (some ⟨g, 0, none⟩), .int .i64 t] w fun e w' => e = .returned (.bool false) ∧ w = w' := by
  have hc := Blk.cell h 0
  simp at hc
  go_enter Try.func14, Try.ntmps14
  go_wp2
  go_ret
  exact ⟨rfl, rfl⟩

set_option maxHeartbeats 400000 in
theorem late_some (g : Nat) (s0 t0 t : Int) (w : World) (h : PingIs w g (some (s0, t0))) :
    Calls Try.prog 14 #[.pointer (some ⟨g, 0, none⟩), .int .i64 t] w fun e w' => e = .returned (.bool (lateB (some (s0, t0)) t)) ∧ w = w' := by
  obtain ⟨b, hne, hg, hb⟩ := h
  have hc := hg.cell 0
  have hc1 := hb.cell 1
  simp at hc hc1
  by_cases ht : t0 < t
  · have hfin : lateB (some (s0, t0)) t = decide (3 < IntKind.u64.wrap (IntKind.u64.wrap t - IntKind.u64.wrap t0)) := by simp [lateB, ht]
    have H := Lib.hid hfin
    clear hfin
    go_enter Try.func14, Try.ntmps14
    go_wp2
    go_ret
    exact ⟨by rw [H.out]; rfl, rfl⟩
  · have hd : decide (t0 < t) = false := by simpa using ht
    have hfin : lateB (some (s0, t0)) t = false := by simp [lateB, ht]
    have H := Lib.hid hfin
    clear hfin
    go_enter Try.func14, Try.ntmps14
    go_wp2
    go_ret
    exact ⟨by rw [H.out]; rfl, rfl⟩
theorem late_any (g : Nat) (st : Option (Int × Int)) (t : Int) (w : World) (h : PingIs w g st) :
    Calls Try.prog 14 #[.pointer (some ⟨g, 0, none⟩), .int .i64 t] w fun e w' => e = .returned (.bool (lateB st t)) ∧ w = w' := by
  rcases st with _ | ⟨s0, t0⟩
  · exact late_none g t w h
  · exact late_some g s0 t0 t w h

/-! ### the reference -/
def tickS (st : Option (Int × Int)) : Int := match st with | none => 0 | some (_, t) => t
def PRefIs (w : World) (g : Nat) (st : Option (Int × Int)) : Prop := Blk w g 34 #[.bool st.isSome, .int .i64 (serS st), .int .i64 (tickS st)]
set_option maxHeartbeats 400000 in
theorem rask_any (g : Nat) (st : Option (Int × Int)) (s t : Int) (w : World) (h : PRefIs w g st) :
    Calls Try.prog 18 #[.pointer (some ⟨g, 0, none⟩), .int .i64 s, .int .i64 t] w fun e w' => e = .returned (.bool (askB st)) ∧ PRefIs w' g (askS st s t) ∧ w.grownBy w' (some g) := by
  have hg : Blk _ _ _ _ := h
  have hc0 := hg.cell 0
  have hc1 := hg.cell 1
  have hc2 := hg.cell 2
  have hf0 := hg.frozen 0
  have hf1 := hg.frozen 1
  have hf2 := hg.frozen 2
  simp at hc0 hc1 hc2
  rcases st with _ | ⟨s0, t0⟩
  · simp at hc0
    clear h
    go_enter Try.func18, Try.ntmps18
    go_wp2
    go_ret
    exact ⟨rfl, by simpa [PRefIs, askS, serS, tickS] using ((hg.set_ 0 (.bool true)).set_ 1 (.int .i64 s)).set_ 2 (.int .i64 t), only_set (only_set (only_set (only_refl _ _) _ _) _ _) _ _⟩
  · simp at hc0
    go_enter Try.func18, Try.ntmps18
    go_wp2
    go_ret
    exact ⟨rfl, h, only_refl _ _⟩
set_option maxHeartbeats 400000 in
theorem rpong_any (g : Nat) (st : Option (Int × Int)) (s : Int) (w : World) (h : PRefIs w g st) :
    Calls Try.prog 16 #[.pointer (some ⟨g, 0, none⟩), .int .i64 s] w fun e w' => e = .returned (.bool (pongB st s)) ∧ PRefIs w' g (pongS st s) ∧ w.grownBy w' (some g) := by
  have hg : Blk _ _ _ _ := h
  have hc0 := hg.cell 0
  have hc1 := hg.cell 1
  have hc2 := hg.cell 2
  have hf0 := hg.frozen 0
  have hf1 := hg.frozen 1
  have hf2 := hg.frozen 2
  simp at hc0 hc1 hc2
  rcases st with _ | ⟨s0, t0⟩
  · simp at hc0
    go_enter Try.func16, Try.ntmps16
    go_wp2
    go_ret
    exact ⟨rfl, h, only_refl _ _⟩
  · simp [serS, tickS] at hc0 hc1 hc2
    by_cases hs : s0 = s
    · subst hs
      have h1 : (s0 != s0) = false := by simp
      have hfin : pongB (some (s0, t0)) s0 = true ∧ pongS (some (s0, t0)) s0 = none := by simp [pongB, pongS]
      have H := Lib.hid hfin
      clear hfin h
      go_enter Try.func16, Try.ntmps16
      go_wp2
      go_ret
      refine ⟨by rw [H.out.1]; rfl, ?_, only_set (only_set (only_set (only_refl _ _) _ _) _ _) _ _⟩
      rw [H.out.2]
      simpa [PRefIs, serS, tickS] using ((hg.set_ 0 (.bool false)).set_ 1 (.int .i64 0)).set_ 2 (.int .i64 0)
    · have h1 : (s0 != s) = true := by simpa using hs
      have hfin : pongB (some (s0, t0)) s = false ∧ pongS (some (s0, t0)) s = some (s0, t0) := by simp [pongB, pongS, hs]
      have H := Lib.hid hfin
      clear hfin hs
      go_enter Try.func16, Try.ntmps16
      go_wp2
      go_ret
      exact ⟨by rw [H.out.1]; rfl, by rw [H.out.2]; exact h, only_refl _ _⟩
set_option maxHeartbeats 400000 in
theorem rlate_any (g : Nat) (st : Option (Int × Int)) (t : Int) (w : World) (h : PRefIs w g st) :
    Calls Try.prog 17 #[.pointer (some ⟨g, 0, none⟩), .int .i64 t] w fun e w' => e = .returned (.bool (lateB st t)) ∧ w = w' := by
  have hg : Blk _ _ _ _ := h
  have hc0 := hg.cell 0
  have hc2 := hg.cell 2
  simp at hc0 hc2
  clear h hg
  rcases st with _ | ⟨s0, t0⟩
  · simp at hc0
    go_enter Try.func17, Try.ntmps17
    go_wp2
    go_ret
    exact ⟨rfl, rfl⟩
  · simp [tickS] at hc0 hc2
    by_cases ht : t0 < t
    · have hfin : lateB (some (s0, t0)) t = decide (3 < IntKind.u64.wrap (IntKind.u64.wrap t - IntKind.u64.wrap t0)) := by simp [lateB, ht]
      have H := Lib.hid hfin
      clear hfin
      go_enter Try.func17, Try.ntmps17
      go_wp2
      go_ret
      exact ⟨by rw [H.out]; rfl, rfl⟩
    · have hd : decide (t0 < t) = false := by simpa using ht
      have hfin : lateB (some (s0, t0)) t = false := by simp [lateB, ht]
      have H := Lib.hid hfin
      clear hfin
      go_enter Try.func17, Try.ntmps17
      go_wp2
      go_ret
      exact ⟨by rw [H.out]; rfl, rfl⟩

set_option maxHeartbeats 400000 in
theorem pawake_any (w : World) : Calls Try.prog 15 #[] w fun e w' => e = .returned (.bool true) ∧ Below w.heap.size w w' := by
  have f1 : askB none = true := rfl
  have f2 : lateB (askS none 5 1) 4 = false := rfl
  have f3 : lateB (askS none 5 1) 5 = true := rfl
  have f4 : pongB (askS none 5 1) 5 = true := rfl
  have f5 : lateB (pongS (askS none 5 1) 5) 9 = false := rfl
  go_enter Try.func15, Try.ntmps15
  go_wp2_with fail
  refine (new_any _).mono ?_
  rintro e w1 ⟨rfl, hp1, hb1⟩
  go_wp2_with fail
  refine (ask_any _ _ _ _ _ hp1).mono ?_
  rintro e w2 ⟨rfl, hp2, hg2⟩
  rw [f1]
  go_wp2_with fail
  refine (late_any _ _ _ _ hp2).mono ?_
  rintro e w3 ⟨rfl, rfl⟩
  rw [f2]
  go_wp2_with fail
  refine (late_any _ _ _ _ hp2).mono ?_
  rintro e w3 ⟨rfl, rfl⟩
  rw [f3]
  go_wp2_with fail
  refine (pong_any _ _ _ _ hp2).mono ?_
  rintro e w4 ⟨rfl, hp4, hg4⟩
  rw [f4]
  go_wp2_with fail
  refine (late_any _ _ _ _ hp4).mono ?_
  rintro e w5 ⟨rfl, rfl⟩
  rw [f5]
  go_wp2_with fail
  go_ret
  exact ⟨rfl, below_of_only (below_of_only hb1 hg2 hb1.size (Nat.le_refl _)) hg4 (Nat.le_trans hb1.size hg2.size) (Nat.le_refl _)⟩
end Go.Proofs.Ytnaagmjjnapklaa
