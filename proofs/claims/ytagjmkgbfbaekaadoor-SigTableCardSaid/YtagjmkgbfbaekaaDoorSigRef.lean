/- tableauref03.Requests, Events: what they answer, case by case. No condition. (Printed by gen_sigref.py.) -/
import Derived.Test.YtagjmkgbfbaekaaDoorSigFace
namespace Go.Proofs.YtagjmkgbfbaekaaDoor
open Go.RowKit
set_option maxRecDepth 100000

def RReqPost (w : World) (f : Nat) (e : Ending) (w' : World) : Prop := ∃ v, e = .returned v ∧ SlN w' w'.heap.size 3 v (reqsOf f).length (reqCells (reqsOf f)) ∧ Below w.heap.size w w'
def REvPost (w : World) (f : Nat) (e : Ending) (w' : World) : Prop := ∃ v, e = .returned v ∧ SlN w' w'.heap.size 1 v (evsOf f).length ((evsOf f).map Value.string) ∧ Below w.heap.size w w'
theorem rreq_end (w : World) (f : Nat) (o : Obj) (cs : Array Value) (t : TypeId) (n : Nat) (hn : cs.size = n * 3) (hm : n ≤ 65536) (hl : (reqsOf f).length = n) (h : cs.toList = reqCells (reqsOf f)) :
    RReqPost w f (.returned (.slice (some ⟨w.heap.size + 1, 0, none⟩) n n)) ((w.alloc o).alloc (.cells cs t)) := by
  refine ⟨_, rfl, ?_, ((Below.refl _ _).alloc (Nat.le_refl _) _).alloc (by simp) _⟩
  rw [hl, ← h]
  have := lit_row (Blk.new (w.alloc o) t cs) hn hm
  simpa using this
theorem rreq_nil (w : World) (f : Nat) (o : Obj) (hl : reqsOf f = []) : RReqPost w f (.returned (.slice none 0 0)) (w.alloc o) := by
  refine ⟨_, rfl, ?_, (Below.refl _ _).alloc (Nat.le_refl _) _⟩
  rw [hl]
  exact ⟨rfl, none, 0, rfl, Nat.le_refl _, by simp, fun _ => rfl, fun h => absurd h (Nat.lt_irrefl _)⟩
theorem rev_end (w : World) (f : Nat) (cs : Array Value) (t : TypeId) (n : Nat) (hn : cs.size = n * 1) (hm : n ≤ 65536) (hl : (evsOf f).length = n) (h : cs.toList = (evsOf f).map Value.string) :
    REvPost w f (.returned (.slice (some ⟨w.heap.size, 0, none⟩) n n)) (w.alloc (.cells cs t)) := by
  refine ⟨_, rfl, ?_, (Below.refl _ _).alloc (Nat.le_refl _) _⟩
  rw [hl, ← h]
  exact lit_row (Blk.new w t cs) hn hm
theorem rev_nil (w : World) (f : Nat) (hl : evsOf f = []) : REvPost w f (.returned (.slice none 0 0)) w := by
  refine ⟨_, rfl, ?_, Below.refl _ _⟩
  rw [hl]
  exact ⟨rfl, none, 0, rfl, Nat.le_refl _, by simp, fun _ => rfl, fun h => absurd h (Nat.lt_irrefl _)⟩

set_option maxHeartbeats 800000 in
theorem rrequests_1 (w : World) : Calls Tryd.prog 54 #[.int .i64 1] w (RReqPost w 1) := by
  go_enter Tryd.func54, Tryd.ntmps54
  go_wp2
  go_ret
  exact rreq_end w 1 _ _ _ 2 rfl (by decide) rfl rfl
set_option maxHeartbeats 800000 in
theorem rrequests_2 (w : World) : Calls Tryd.prog 54 #[.int .i64 2] w (RReqPost w 2) := by
  go_enter Tryd.func54, Tryd.ntmps54
  go_wp2
  go_ret
  exact rreq_end w 2 _ _ _ 1 rfl (by decide) rfl rfl
set_option maxHeartbeats 800000 in
theorem rrequests_3 (w : World) : Calls Tryd.prog 54 #[.int .i64 3] w (RReqPost w 3) := by
  go_enter Tryd.func54, Tryd.ntmps54
  go_wp2
  go_ret
  exact rreq_nil w 3 _ rfl
set_option maxHeartbeats 800000 in
theorem rrequests_4 (w : World) : Calls Tryd.prog 54 #[.int .i64 4] w (RReqPost w 4) := by
  go_enter Tryd.func54, Tryd.ntmps54
  go_wp2
  go_ret
  exact rreq_end w 4 _ _ _ 2 rfl (by decide) rfl rfl
set_option maxHeartbeats 800000 in
theorem rrequests_5 (w : World) : Calls Tryd.prog 54 #[.int .i64 5] w (RReqPost w 5) := by
  go_enter Tryd.func54, Tryd.ntmps54
  go_wp2
  go_ret
  exact rreq_end w 5 _ _ _ 1 rfl (by decide) rfl rfl
set_option maxHeartbeats 800000 in
theorem rrequests_6 (w : World) : Calls Tryd.prog 54 #[.int .i64 6] w (RReqPost w 6) := by
  go_enter Tryd.func54, Tryd.ntmps54
  go_wp2
  go_ret
  exact rreq_end w 6 _ _ _ 3 rfl (by decide) rfl rfl
set_option maxHeartbeats 800000 in
theorem rrequests_7 (w : World) : Calls Tryd.prog 54 #[.int .i64 7] w (RReqPost w 7) := by
  go_enter Tryd.func54, Tryd.ntmps54
  go_wp2
  go_ret
  exact rreq_end w 7 _ _ _ 1 rfl (by decide) rfl rfl
set_option maxHeartbeats 800000 in
theorem rrequests_8 (w : World) : Calls Tryd.prog 54 #[.int .i64 8] w (RReqPost w 8) := by
  go_enter Tryd.func54, Tryd.ntmps54
  go_wp2
  go_ret
  exact rreq_end w 8 _ _ _ 6 rfl (by decide) rfl rfl
set_option maxHeartbeats 800000 in
theorem rrequests_9 (w : World) : Calls Tryd.prog 54 #[.int .i64 9] w (RReqPost w 9) := by
  go_enter Tryd.func54, Tryd.ntmps54
  go_wp2
  go_ret
  exact rreq_end w 9 _ _ _ 3 rfl (by decide) rfl rfl
set_option maxHeartbeats 800000 in
theorem rrequests_10 (w : World) : Calls Tryd.prog 54 #[.int .i64 10] w (RReqPost w 10) := by
  go_enter Tryd.func54, Tryd.ntmps54
  go_wp2
  go_ret
  exact rreq_end w 10 _ _ _ 2 rfl (by decide) rfl rfl
set_option maxHeartbeats 800000 in
theorem rrequests_11 (w : World) : Calls Tryd.prog 54 #[.int .i64 11] w (RReqPost w 11) := by
  go_enter Tryd.func54, Tryd.ntmps54
  go_wp2
  go_ret
  exact rreq_end w 11 _ _ _ 6 rfl (by decide) rfl rfl
set_option maxHeartbeats 800000 in
theorem rrequests_12 (w : World) : Calls Tryd.prog 54 #[.int .i64 12] w (RReqPost w 12) := by
  go_enter Tryd.func54, Tryd.ntmps54
  go_wp2
  go_ret
  exact rreq_end w 12 _ _ _ 2 rfl (by decide) rfl rfl
set_option maxHeartbeats 800000 in
theorem rrequests_13 (w : World) : Calls Tryd.prog 54 #[.int .i64 13] w (RReqPost w 13) := by
  go_enter Tryd.func54, Tryd.ntmps54
  go_wp2
  go_ret
  exact rreq_end w 13 _ _ _ 1 rfl (by decide) rfl rfl
set_option maxHeartbeats 800000 in
theorem rrequests_14 (w : World) : Calls Tryd.prog 54 #[.int .i64 14] w (RReqPost w 14) := by
  go_enter Tryd.func54, Tryd.ntmps54
  go_wp2
  go_ret
  exact rreq_end w 14 _ _ _ 1 rfl (by decide) rfl rfl
set_option maxHeartbeats 800000 in
theorem rrequests_15 (w : World) : Calls Tryd.prog 54 #[.int .i64 15] w (RReqPost w 15) := by
  go_enter Tryd.func54, Tryd.ntmps54
  go_wp2
  go_ret
  exact rreq_end w 15 _ _ _ 3 rfl (by decide) rfl rfl
set_option maxHeartbeats 800000 in
theorem rrequests_16 (w : World) : Calls Tryd.prog 54 #[.int .i64 16] w (RReqPost w 16) := by
  go_enter Tryd.func54, Tryd.ntmps54
  go_wp2
  go_ret
  exact rreq_end w 16 _ _ _ 3 rfl (by decide) rfl rfl
set_option maxHeartbeats 800000 in
theorem rrequests_17 (w : World) : Calls Tryd.prog 54 #[.int .i64 17] w (RReqPost w 17) := by
  go_enter Tryd.func54, Tryd.ntmps54
  go_wp2
  go_ret
  exact rreq_end w 17 _ _ _ 2 rfl (by decide) rfl rfl
set_option maxHeartbeats 800000 in
theorem rrequests_no (face : Int) (w : World) (h : face < 1 ∨ 17 < face) : Calls Tryd.prog 54 #[.int .i64 face] w (RReqPost w 0) := by
  have h1 : (face == 1) = false := by rw [beq_eq_false_iff_ne]; omega
  have h2 : (face == 2) = false := by rw [beq_eq_false_iff_ne]; omega
  have h3 : (face == 3) = false := by rw [beq_eq_false_iff_ne]; omega
  have h4 : (face == 4) = false := by rw [beq_eq_false_iff_ne]; omega
  have h5 : (face == 5) = false := by rw [beq_eq_false_iff_ne]; omega
  have h6 : (face == 6) = false := by rw [beq_eq_false_iff_ne]; omega
  have h7 : (face == 7) = false := by rw [beq_eq_false_iff_ne]; omega
  have h8 : (face == 8) = false := by rw [beq_eq_false_iff_ne]; omega
  have h9 : (face == 9) = false := by rw [beq_eq_false_iff_ne]; omega
  have h10 : (face == 10) = false := by rw [beq_eq_false_iff_ne]; omega
  have h11 : (face == 11) = false := by rw [beq_eq_false_iff_ne]; omega
  have h12 : (face == 12) = false := by rw [beq_eq_false_iff_ne]; omega
  have h13 : (face == 13) = false := by rw [beq_eq_false_iff_ne]; omega
  have h14 : (face == 14) = false := by rw [beq_eq_false_iff_ne]; omega
  have h15 : (face == 15) = false := by rw [beq_eq_false_iff_ne]; omega
  have h16 : (face == 16) = false := by rw [beq_eq_false_iff_ne]; omega
  have h17 : (face == 17) = false := by rw [beq_eq_false_iff_ne]; omega
  clear h
  go_enter Tryd.func54, Tryd.ntmps54
  go_wp2
  go_ret
  exact rreq_nil w 0 _ rfl
theorem rrequests_any (face : Int) (w : World) : Calls Tryd.prog 54 #[.int .i64 face] w (RReqPost w (fc face)) := by
  by_cases h : face < 1 ∨ 17 < face
  · have e : RReqPost w (fc face) = RReqPost w 0 := by
      by_cases h0 : face = 0
      · subst h0; rfl
      · have : fc face = 0 := by unfold fc; rw [if_neg (by omega)]
        rw [this]
    rw [e]
    exact rrequests_no face w h
  · have : face = 1 ∨ face = 2 ∨ face = 3 ∨ face = 4 ∨ face = 5 ∨ face = 6 ∨ face = 7 ∨ face = 8 ∨ face = 9 ∨ face = 10 ∨ face = 11 ∨ face = 12 ∨ face = 13 ∨ face = 14 ∨ face = 15 ∨ face = 16 ∨ face = 17 := by omega
    rcases this with rfl | rfl | rfl | rfl | rfl | rfl | rfl | rfl | rfl | rfl | rfl | rfl | rfl | rfl | rfl | rfl | rfl
    · exact rrequests_1 w
    · exact rrequests_2 w
    · exact rrequests_3 w
    · exact rrequests_4 w
    · exact rrequests_5 w
    · exact rrequests_6 w
    · exact rrequests_7 w
    · exact rrequests_8 w
    · exact rrequests_9 w
    · exact rrequests_10 w
    · exact rrequests_11 w
    · exact rrequests_12 w
    · exact rrequests_13 w
    · exact rrequests_14 w
    · exact rrequests_15 w
    · exact rrequests_16 w
    · exact rrequests_17 w
set_option maxHeartbeats 800000 in
theorem revents_1 (w : World) : Calls Tryd.prog 55 #[.int .i64 1] w (REvPost w 1) := by
  go_enter Tryd.func55, Tryd.ntmps55
  go_wp2
  go_ret
  exact rev_end w 1 _ _ 2 rfl (by decide) rfl rfl
set_option maxHeartbeats 800000 in
theorem revents_2 (w : World) : Calls Tryd.prog 55 #[.int .i64 2] w (REvPost w 2) := by
  go_enter Tryd.func55, Tryd.ntmps55
  go_wp2
  go_ret
  exact rev_end w 2 _ _ 1 rfl (by decide) rfl rfl
set_option maxHeartbeats 800000 in
theorem revents_3 (w : World) : Calls Tryd.prog 55 #[.int .i64 3] w (REvPost w 3) := by
  go_enter Tryd.func55, Tryd.ntmps55
  go_wp2
  go_ret
  exact rev_end w 3 _ _ 1 rfl (by decide) rfl rfl
set_option maxHeartbeats 800000 in
theorem revents_4 (w : World) : Calls Tryd.prog 55 #[.int .i64 4] w (REvPost w 4) := by
  go_enter Tryd.func55, Tryd.ntmps55
  go_wp2
  go_ret
  exact rev_nil w 4 rfl
set_option maxHeartbeats 800000 in
theorem revents_5 (w : World) : Calls Tryd.prog 55 #[.int .i64 5] w (REvPost w 5) := by
  go_enter Tryd.func55, Tryd.ntmps55
  go_wp2
  go_ret
  exact rev_end w 5 _ _ 1 rfl (by decide) rfl rfl
set_option maxHeartbeats 800000 in
theorem revents_6 (w : World) : Calls Tryd.prog 55 #[.int .i64 6] w (REvPost w 6) := by
  go_enter Tryd.func55, Tryd.ntmps55
  go_wp2
  go_ret
  exact rev_nil w 6 rfl
set_option maxHeartbeats 800000 in
theorem revents_7 (w : World) : Calls Tryd.prog 55 #[.int .i64 7] w (REvPost w 7) := by
  go_enter Tryd.func55, Tryd.ntmps55
  go_wp2
  go_ret
  exact rev_end w 7 _ _ 1 rfl (by decide) rfl rfl
set_option maxHeartbeats 800000 in
theorem revents_8 (w : World) : Calls Tryd.prog 55 #[.int .i64 8] w (REvPost w 8) := by
  go_enter Tryd.func55, Tryd.ntmps55
  go_wp2
  go_ret
  exact rev_nil w 8 rfl
set_option maxHeartbeats 800000 in
theorem revents_9 (w : World) : Calls Tryd.prog 55 #[.int .i64 9] w (REvPost w 9) := by
  go_enter Tryd.func55, Tryd.ntmps55
  go_wp2
  go_ret
  exact rev_nil w 9 rfl
set_option maxHeartbeats 800000 in
theorem revents_10 (w : World) : Calls Tryd.prog 55 #[.int .i64 10] w (REvPost w 10) := by
  go_enter Tryd.func55, Tryd.ntmps55
  go_wp2
  go_ret
  exact rev_nil w 10 rfl
set_option maxHeartbeats 800000 in
theorem revents_11 (w : World) : Calls Tryd.prog 55 #[.int .i64 11] w (REvPost w 11) := by
  go_enter Tryd.func55, Tryd.ntmps55
  go_wp2
  go_ret
  exact rev_nil w 11 rfl
set_option maxHeartbeats 800000 in
theorem revents_12 (w : World) : Calls Tryd.prog 55 #[.int .i64 12] w (REvPost w 12) := by
  go_enter Tryd.func55, Tryd.ntmps55
  go_wp2
  go_ret
  exact rev_end w 12 _ _ 1 rfl (by decide) rfl rfl
set_option maxHeartbeats 800000 in
theorem revents_13 (w : World) : Calls Tryd.prog 55 #[.int .i64 13] w (REvPost w 13) := by
  go_enter Tryd.func55, Tryd.ntmps55
  go_wp2
  go_ret
  exact rev_end w 13 _ _ 4 rfl (by decide) rfl rfl
set_option maxHeartbeats 800000 in
theorem revents_14 (w : World) : Calls Tryd.prog 55 #[.int .i64 14] w (REvPost w 14) := by
  go_enter Tryd.func55, Tryd.ntmps55
  go_wp2
  go_ret
  exact rev_end w 14 _ _ 3 rfl (by decide) rfl rfl
set_option maxHeartbeats 800000 in
theorem revents_15 (w : World) : Calls Tryd.prog 55 #[.int .i64 15] w (REvPost w 15) := by
  go_enter Tryd.func55, Tryd.ntmps55
  go_wp2
  go_ret
  exact rev_end w 15 _ _ 1 rfl (by decide) rfl rfl
set_option maxHeartbeats 800000 in
theorem revents_16 (w : World) : Calls Tryd.prog 55 #[.int .i64 16] w (REvPost w 16) := by
  go_enter Tryd.func55, Tryd.ntmps55
  go_wp2
  go_ret
  exact rev_end w 16 _ _ 1 rfl (by decide) rfl rfl
set_option maxHeartbeats 800000 in
theorem revents_17 (w : World) : Calls Tryd.prog 55 #[.int .i64 17] w (REvPost w 17) := by
  go_enter Tryd.func55, Tryd.ntmps55
  go_wp2
  go_ret
  exact rev_end w 17 _ _ 2 rfl (by decide) rfl rfl
set_option maxHeartbeats 800000 in
theorem revents_no (face : Int) (w : World) (h : face < 1 ∨ 17 < face) : Calls Tryd.prog 55 #[.int .i64 face] w (REvPost w 0) := by
  have h1 : (face == 1) = false := by rw [beq_eq_false_iff_ne]; omega
  have h2 : (face == 2) = false := by rw [beq_eq_false_iff_ne]; omega
  have h3 : (face == 3) = false := by rw [beq_eq_false_iff_ne]; omega
  have h4 : (face == 4) = false := by rw [beq_eq_false_iff_ne]; omega
  have h5 : (face == 5) = false := by rw [beq_eq_false_iff_ne]; omega
  have h6 : (face == 6) = false := by rw [beq_eq_false_iff_ne]; omega
  have h7 : (face == 7) = false := by rw [beq_eq_false_iff_ne]; omega
  have h8 : (face == 8) = false := by rw [beq_eq_false_iff_ne]; omega
  have h9 : (face == 9) = false := by rw [beq_eq_false_iff_ne]; omega
  have h10 : (face == 10) = false := by rw [beq_eq_false_iff_ne]; omega
  have h11 : (face == 11) = false := by rw [beq_eq_false_iff_ne]; omega
  have h12 : (face == 12) = false := by rw [beq_eq_false_iff_ne]; omega
  have h13 : (face == 13) = false := by rw [beq_eq_false_iff_ne]; omega
  have h14 : (face == 14) = false := by rw [beq_eq_false_iff_ne]; omega
  have h15 : (face == 15) = false := by rw [beq_eq_false_iff_ne]; omega
  have h16 : (face == 16) = false := by rw [beq_eq_false_iff_ne]; omega
  have h17 : (face == 17) = false := by rw [beq_eq_false_iff_ne]; omega
  clear h
  go_enter Tryd.func55, Tryd.ntmps55
  go_wp2
  go_ret
  exact rev_nil w 0 rfl
theorem revents_any (face : Int) (w : World) : Calls Tryd.prog 55 #[.int .i64 face] w (REvPost w (fc face)) := by
  by_cases h : face < 1 ∨ 17 < face
  · have e : REvPost w (fc face) = REvPost w 0 := by
      by_cases h0 : face = 0
      · subst h0; rfl
      · have : fc face = 0 := by unfold fc; rw [if_neg (by omega)]
        rw [this]
    rw [e]
    exact revents_no face w h
  · have : face = 1 ∨ face = 2 ∨ face = 3 ∨ face = 4 ∨ face = 5 ∨ face = 6 ∨ face = 7 ∨ face = 8 ∨ face = 9 ∨ face = 10 ∨ face = 11 ∨ face = 12 ∨ face = 13 ∨ face = 14 ∨ face = 15 ∨ face = 16 ∨ face = 17 := by omega
    rcases this with rfl | rfl | rfl | rfl | rfl | rfl | rfl | rfl | rfl | rfl | rfl | rfl | rfl | rfl | rfl | rfl | rfl
    · exact revents_1 w
    · exact revents_2 w
    · exact revents_3 w
    · exact revents_4 w
    · exact revents_5 w
    · exact revents_6 w
    · exact revents_7 w
    · exact revents_8 w
    · exact revents_9 w
    · exact revents_10 w
    · exact revents_11 w
    · exact revents_12 w
    · exact revents_13 w
    · exact revents_14 w
    · exact revents_15 w
    · exact revents_16 w
    · exact revents_17 w
end Go.Proofs.YtagjmkgbfbaekaaDoor
