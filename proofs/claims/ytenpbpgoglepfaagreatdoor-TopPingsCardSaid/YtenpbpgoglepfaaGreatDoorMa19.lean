/- TopPings, each case (printed by ev/py). No condition. -/
import Derived.Test.YtenpbpgoglepfaaGreatDoorMa14
import Derived.Test.YtenpbpgoglepfaaGreatDoorMa16
import Derived.Test.YtenpbpgoglepfaaGreatDoorMa17
import Derived.Test.YtenpbpgoglepfaaGreatDoorMa18
import Derived.Test.YtenpbpgoglepfaaGreatDoorMa1
import Derived.Test.YtenpbpgoglepfaaGreatDoorChecked
import Derived.ProofKit
import Derived.OpenShut
import Derived.SizedLaws
import Derived.ChangeOld
import Derived.Deep.Slices
import Derived.Deep.Fields
namespace Go.Proofs.YtenpbpgoglepfaaGreatDoor
open Go.RowKit
set_option linter.unusedVariables false
set_option maxRecDepth 100000
theorem pings_f0 : okB (evF (tabW [(7, .es [pe8]), (131, .es [pe9]), (16, .clo (.b true)), (8, .one (.pr (prPl [(0, 8, 0)])))]) 60 3 (L [.b false, .nil]) (stE 34 st0L [])) (.b true) = true := by kernel_rfl
theorem pings_f0_w {A : Nat → Addr} {n : Int} {w : World} (hE : Errs w w.heap.size allE A) (hy : ETy0 w.heap.size w) (hG : ∀ k ∈ allE, ∃ c t, w.heap[gno k]? = some (.cells c t (0, 0))) (h : n % 8 = 0) : CallsF Tryz.prog 3 #[.bool false, .int .i64 n] w fun x w' => x = .bool true ∧ Below w.heap.size w w' :=
  law_run (rows := [(7, .es [pe8]), (131, .es [pe9]), (16, .clo (.b true)), (8, .one (.pr (prPl [(0, 8, 0)])))]) (o := fun _ => .int .i64 n) (ar := (L [.b false, .nil])) hE hy hG (rows_cons (ents_cons po8 ents_nil) (rows_cons (ents_cons po9 ents_nil) (rows_cons ⟨rfl, _, awake_o⟩ (rows_cons (prPl_ok (pl_cons ⟨n, rfl, h, by decide, by decide⟩ pl_nil)) rows_nil)))) (by decide) pings_f0 ⟨_, _, rfl, rfl, _, _, rfl, rfl, rfl⟩
theorem pings_f1 : okB (evF (tabW [(7, .es [pe8]), (131, .es [pe9, pe10]), (16, .clo (.b true)), (8, .one (.pr (prPl [(0, 8, 1)])))]) 60 3 (L [.b false, .nil]) (stE 34 st0L [])) (.b true) = true := by kernel_rfl
theorem pings_f1_w {A : Nat → Addr} {n : Int} {w : World} (hE : Errs w w.heap.size allE A) (hy : ETy0 w.heap.size w) (hG : ∀ k ∈ allE, ∃ c t, w.heap[gno k]? = some (.cells c t (0, 0))) (h : n % 8 = 1) : CallsF Tryz.prog 3 #[.bool false, .int .i64 n] w fun x w' => x = .bool true ∧ Below w.heap.size w w' :=
  law_run (rows := [(7, .es [pe8]), (131, .es [pe9, pe10]), (16, .clo (.b true)), (8, .one (.pr (prPl [(0, 8, 1)])))]) (o := fun _ => .int .i64 n) (ar := (L [.b false, .nil])) hE hy hG (rows_cons (ents_cons po8 ents_nil) (rows_cons (ents_cons po9 (ents_cons po10 ents_nil)) (rows_cons ⟨rfl, _, awake_o⟩ (rows_cons (prPl_ok (pl_cons ⟨n, rfl, h, by decide, by decide⟩ pl_nil)) rows_nil)))) (by decide) pings_f1 ⟨_, _, rfl, rfl, _, _, rfl, rfl, rfl⟩
theorem pings_f2 : okB (evF (tabW [(7, .es [pe8]), (131, .es [pe9, pe10, pe11]), (16, .clo (.b true)), (8, .one (.pr (prPl [(0, 8, 2)])))]) 60 3 (L [.b false, .nil]) (stE 34 st0L [])) (.b true) = true := by kernel_rfl
theorem pings_f2_w {A : Nat → Addr} {n : Int} {w : World} (hE : Errs w w.heap.size allE A) (hy : ETy0 w.heap.size w) (hG : ∀ k ∈ allE, ∃ c t, w.heap[gno k]? = some (.cells c t (0, 0))) (h : n % 8 = 2) : CallsF Tryz.prog 3 #[.bool false, .int .i64 n] w fun x w' => x = .bool true ∧ Below w.heap.size w w' :=
  law_run (rows := [(7, .es [pe8]), (131, .es [pe9, pe10, pe11]), (16, .clo (.b true)), (8, .one (.pr (prPl [(0, 8, 2)])))]) (o := fun _ => .int .i64 n) (ar := (L [.b false, .nil])) hE hy hG (rows_cons (ents_cons po8 ents_nil) (rows_cons (ents_cons po9 (ents_cons po10 (ents_cons po11 ents_nil))) (rows_cons ⟨rfl, _, awake_o⟩ (rows_cons (prPl_ok (pl_cons ⟨n, rfl, h, by decide, by decide⟩ pl_nil)) rows_nil)))) (by decide) pings_f2 ⟨_, _, rfl, rfl, _, _, rfl, rfl, rfl⟩
theorem pings_f3 : okB (evF (tabW [(7, .es [pe8]), (131, .es [pe9, pe10, pe11, pe12]), (16, .clo (.b true)), (8, .one (.pr (prPl [(0, 8, 3)])))]) 60 3 (L [.b false, .nil]) (stE 34 st0L [])) (.b true) = true := by kernel_rfl
theorem pings_f3_w {A : Nat → Addr} {n : Int} {w : World} (hE : Errs w w.heap.size allE A) (hy : ETy0 w.heap.size w) (hG : ∀ k ∈ allE, ∃ c t, w.heap[gno k]? = some (.cells c t (0, 0))) (h : n % 8 = 3) : CallsF Tryz.prog 3 #[.bool false, .int .i64 n] w fun x w' => x = .bool true ∧ Below w.heap.size w w' :=
  law_run (rows := [(7, .es [pe8]), (131, .es [pe9, pe10, pe11, pe12]), (16, .clo (.b true)), (8, .one (.pr (prPl [(0, 8, 3)])))]) (o := fun _ => .int .i64 n) (ar := (L [.b false, .nil])) hE hy hG (rows_cons (ents_cons po8 ents_nil) (rows_cons (ents_cons po9 (ents_cons po10 (ents_cons po11 (ents_cons po12 ents_nil)))) (rows_cons ⟨rfl, _, awake_o⟩ (rows_cons (prPl_ok (pl_cons ⟨n, rfl, h, by decide, by decide⟩ pl_nil)) rows_nil)))) (by decide) pings_f3 ⟨_, _, rfl, rfl, _, _, rfl, rfl, rfl⟩
theorem pings_f4 : okB (evF (tabW [(7, .es [pe8]), (131, .es [pe9, pe10, pe11, pe12, pe13]), (16, .clo (.b true)), (8, .one (.pr (prPl [(0, 8, 4)])))]) 60 3 (L [.b false, .nil]) (stE 34 st0L [])) (.b true) = true := by kernel_rfl
theorem pings_f4_w {A : Nat → Addr} {n : Int} {w : World} (hE : Errs w w.heap.size allE A) (hy : ETy0 w.heap.size w) (hG : ∀ k ∈ allE, ∃ c t, w.heap[gno k]? = some (.cells c t (0, 0))) (h : n % 8 = 4) : CallsF Tryz.prog 3 #[.bool false, .int .i64 n] w fun x w' => x = .bool true ∧ Below w.heap.size w w' :=
  law_run (rows := [(7, .es [pe8]), (131, .es [pe9, pe10, pe11, pe12, pe13]), (16, .clo (.b true)), (8, .one (.pr (prPl [(0, 8, 4)])))]) (o := fun _ => .int .i64 n) (ar := (L [.b false, .nil])) hE hy hG (rows_cons (ents_cons po8 ents_nil) (rows_cons (ents_cons po9 (ents_cons po10 (ents_cons po11 (ents_cons po12 (ents_cons po13 ents_nil))))) (rows_cons ⟨rfl, _, awake_o⟩ (rows_cons (prPl_ok (pl_cons ⟨n, rfl, h, by decide, by decide⟩ pl_nil)) rows_nil)))) (by decide) pings_f4 ⟨_, _, rfl, rfl, _, _, rfl, rfl, rfl⟩
theorem pings_f5 : okB (evF (tabW [(7, .es [pe8]), (131, .es [pe9, pe10, pe11, pe12, pe13, pe14]), (16, .clo (.b true)), (8, .one (.pr (prPl [(0, 8, 5)])))]) 60 3 (L [.b false, .nil]) (stE 34 st0L [])) (.b true) = true := by kernel_rfl
theorem pings_f5_w {A : Nat → Addr} {n : Int} {w : World} (hE : Errs w w.heap.size allE A) (hy : ETy0 w.heap.size w) (hG : ∀ k ∈ allE, ∃ c t, w.heap[gno k]? = some (.cells c t (0, 0))) (h : n % 8 = 5) : CallsF Tryz.prog 3 #[.bool false, .int .i64 n] w fun x w' => x = .bool true ∧ Below w.heap.size w w' :=
  law_run (rows := [(7, .es [pe8]), (131, .es [pe9, pe10, pe11, pe12, pe13, pe14]), (16, .clo (.b true)), (8, .one (.pr (prPl [(0, 8, 5)])))]) (o := fun _ => .int .i64 n) (ar := (L [.b false, .nil])) hE hy hG (rows_cons (ents_cons po8 ents_nil) (rows_cons (ents_cons po9 (ents_cons po10 (ents_cons po11 (ents_cons po12 (ents_cons po13 (ents_cons po14 ents_nil)))))) (rows_cons ⟨rfl, _, awake_o⟩ (rows_cons (prPl_ok (pl_cons ⟨n, rfl, h, by decide, by decide⟩ pl_nil)) rows_nil)))) (by decide) pings_f5 ⟨_, _, rfl, rfl, _, _, rfl, rfl, rfl⟩
theorem pings_f6 : okB (evF (tabW [(7, .es [pe8]), (131, .es [pe9, pe10, pe11, pe12, pe13, pe14, pe15]), (16, .clo (.b true)), (8, .one (.pr (prPl [(0, 8, 6)])))]) 60 3 (L [.b false, .nil]) (stE 34 st0L [])) (.b true) = true := by kernel_rfl
theorem pings_f6_w {A : Nat → Addr} {n : Int} {w : World} (hE : Errs w w.heap.size allE A) (hy : ETy0 w.heap.size w) (hG : ∀ k ∈ allE, ∃ c t, w.heap[gno k]? = some (.cells c t (0, 0))) (h : n % 8 = 6) : CallsF Tryz.prog 3 #[.bool false, .int .i64 n] w fun x w' => x = .bool true ∧ Below w.heap.size w w' :=
  law_run (rows := [(7, .es [pe8]), (131, .es [pe9, pe10, pe11, pe12, pe13, pe14, pe15]), (16, .clo (.b true)), (8, .one (.pr (prPl [(0, 8, 6)])))]) (o := fun _ => .int .i64 n) (ar := (L [.b false, .nil])) hE hy hG (rows_cons (ents_cons po8 ents_nil) (rows_cons (ents_cons po9 (ents_cons po10 (ents_cons po11 (ents_cons po12 (ents_cons po13 (ents_cons po14 (ents_cons po15 ents_nil))))))) (rows_cons ⟨rfl, _, awake_o⟩ (rows_cons (prPl_ok (pl_cons ⟨n, rfl, h, by decide, by decide⟩ pl_nil)) rows_nil)))) (by decide) pings_f6 ⟨_, _, rfl, rfl, _, _, rfl, rfl, rfl⟩
theorem pings_f7 : okB (evF (tabW [(7, .es [pe8]), (131, .es [pe9, pe10, pe11, pe12, pe13, pe14, pe15, pe16]), (16, .clo (.b true)), (8, .one (.pr (prPl [(0, 8, 7)])))]) 60 3 (L [.b false, .nil]) (stE 34 st0L [])) (.b true) = true := by kernel_rfl
theorem pings_f7_w {A : Nat → Addr} {n : Int} {w : World} (hE : Errs w w.heap.size allE A) (hy : ETy0 w.heap.size w) (hG : ∀ k ∈ allE, ∃ c t, w.heap[gno k]? = some (.cells c t (0, 0))) (h : n % 8 = 7) : CallsF Tryz.prog 3 #[.bool false, .int .i64 n] w fun x w' => x = .bool true ∧ Below w.heap.size w w' :=
  law_run (rows := [(7, .es [pe8]), (131, .es [pe9, pe10, pe11, pe12, pe13, pe14, pe15, pe16]), (16, .clo (.b true)), (8, .one (.pr (prPl [(0, 8, 7)])))]) (o := fun _ => .int .i64 n) (ar := (L [.b false, .nil])) hE hy hG (rows_cons (ents_cons po8 ents_nil) (rows_cons (ents_cons po9 (ents_cons po10 (ents_cons po11 (ents_cons po12 (ents_cons po13 (ents_cons po14 (ents_cons po15 (ents_cons po16 ents_nil)))))))) (rows_cons ⟨rfl, _, awake_o⟩ (rows_cons (prPl_ok (pl_cons ⟨n, rfl, h, by decide, by decide⟩ pl_nil)) rows_nil)))) (by decide) pings_f7 ⟨_, _, rfl, rfl, _, _, rfl, rfl, rfl⟩
theorem pings_t0 : okB (evF (tabW [(7, .es [pe8]), (131, .es [pe9]), (16, .clo (.b true)), (284, .one (.pr prPong)), (8, .one (.pr (prPl [(0, 8, 0)])))]) 60 3 (L [.b true, .nil]) (stE 34 st0L [])) (.b true) = true := by kernel_rfl
theorem pings_t0_w {A : Nat → Addr} {n : Int} {w : World} (hE : Errs w w.heap.size allE A) (hy : ETy0 w.heap.size w) (hG : ∀ k ∈ allE, ∃ c t, w.heap[gno k]? = some (.cells c t (0, 0))) (h : n % 8 = 0) : CallsF Tryz.prog 3 #[.bool true, .int .i64 n] w fun x w' => x = .bool true ∧ Below w.heap.size w w' :=
  law_run (rows := [(7, .es [pe8]), (131, .es [pe9]), (16, .clo (.b true)), (284, .one (.pr prPong)), (8, .one (.pr (prPl [(0, 8, 0)])))]) (o := fun _ => .int .i64 n) (ar := (L [.b true, .nil])) hE hy hG (rows_cons (ents_cons po8 ents_nil) (rows_cons (ents_cons po9 ents_nil) (rows_cons ⟨rfl, _, awake_o⟩ (rows_cons prPong_ok (rows_cons (prPl_ok (pl_cons ⟨n, rfl, h, by decide, by decide⟩ pl_nil)) rows_nil))))) (by decide) pings_t0 ⟨_, _, rfl, rfl, _, _, rfl, rfl, rfl⟩
theorem pings_t1 : okB (evF (tabW [(7, .es [pe8]), (131, .es [pe9, pe17]), (16, .clo (.b true)), (284, .one (.pr prPong)), (8, .one (.pr (prPl [(0, 8, 1)])))]) 60 3 (L [.b true, .nil]) (stE 34 st0L [])) (.b true) = true := by kernel_rfl
theorem pings_t1_w {A : Nat → Addr} {n : Int} {w : World} (hE : Errs w w.heap.size allE A) (hy : ETy0 w.heap.size w) (hG : ∀ k ∈ allE, ∃ c t, w.heap[gno k]? = some (.cells c t (0, 0))) (h : n % 8 = 1) : CallsF Tryz.prog 3 #[.bool true, .int .i64 n] w fun x w' => x = .bool true ∧ Below w.heap.size w w' :=
  law_run (rows := [(7, .es [pe8]), (131, .es [pe9, pe17]), (16, .clo (.b true)), (284, .one (.pr prPong)), (8, .one (.pr (prPl [(0, 8, 1)])))]) (o := fun _ => .int .i64 n) (ar := (L [.b true, .nil])) hE hy hG (rows_cons (ents_cons po8 ents_nil) (rows_cons (ents_cons po9 (ents_cons po17 ents_nil)) (rows_cons ⟨rfl, _, awake_o⟩ (rows_cons prPong_ok (rows_cons (prPl_ok (pl_cons ⟨n, rfl, h, by decide, by decide⟩ pl_nil)) rows_nil))))) (by decide) pings_t1 ⟨_, _, rfl, rfl, _, _, rfl, rfl, rfl⟩
theorem pings_t2 : okB (evF (tabW [(7, .es [pe8]), (131, .es [pe9, pe17, pe18]), (16, .clo (.b true)), (284, .one (.pr prPong)), (8, .one (.pr (prPl [(0, 8, 2)])))]) 60 3 (L [.b true, .nil]) (stE 34 st0L [])) (.b true) = true := by kernel_rfl
theorem pings_t2_w {A : Nat → Addr} {n : Int} {w : World} (hE : Errs w w.heap.size allE A) (hy : ETy0 w.heap.size w) (hG : ∀ k ∈ allE, ∃ c t, w.heap[gno k]? = some (.cells c t (0, 0))) (h : n % 8 = 2) : CallsF Tryz.prog 3 #[.bool true, .int .i64 n] w fun x w' => x = .bool true ∧ Below w.heap.size w w' :=
  law_run (rows := [(7, .es [pe8]), (131, .es [pe9, pe17, pe18]), (16, .clo (.b true)), (284, .one (.pr prPong)), (8, .one (.pr (prPl [(0, 8, 2)])))]) (o := fun _ => .int .i64 n) (ar := (L [.b true, .nil])) hE hy hG (rows_cons (ents_cons po8 ents_nil) (rows_cons (ents_cons po9 (ents_cons po17 (ents_cons po18 ents_nil))) (rows_cons ⟨rfl, _, awake_o⟩ (rows_cons prPong_ok (rows_cons (prPl_ok (pl_cons ⟨n, rfl, h, by decide, by decide⟩ pl_nil)) rows_nil))))) (by decide) pings_t2 ⟨_, _, rfl, rfl, _, _, rfl, rfl, rfl⟩
theorem pings_t3 : okB (evF (tabW [(7, .es [pe8]), (131, .es [pe9, pe17, pe18, pe19]), (16, .clo (.b true)), (284, .one (.pr prPong)), (8, .one (.pr (prPl [(0, 8, 3)])))]) 60 3 (L [.b true, .nil]) (stE 34 st0L [])) (.b true) = true := by kernel_rfl
theorem pings_t3_w {A : Nat → Addr} {n : Int} {w : World} (hE : Errs w w.heap.size allE A) (hy : ETy0 w.heap.size w) (hG : ∀ k ∈ allE, ∃ c t, w.heap[gno k]? = some (.cells c t (0, 0))) (h : n % 8 = 3) : CallsF Tryz.prog 3 #[.bool true, .int .i64 n] w fun x w' => x = .bool true ∧ Below w.heap.size w w' :=
  law_run (rows := [(7, .es [pe8]), (131, .es [pe9, pe17, pe18, pe19]), (16, .clo (.b true)), (284, .one (.pr prPong)), (8, .one (.pr (prPl [(0, 8, 3)])))]) (o := fun _ => .int .i64 n) (ar := (L [.b true, .nil])) hE hy hG (rows_cons (ents_cons po8 ents_nil) (rows_cons (ents_cons po9 (ents_cons po17 (ents_cons po18 (ents_cons po19 ents_nil)))) (rows_cons ⟨rfl, _, awake_o⟩ (rows_cons prPong_ok (rows_cons (prPl_ok (pl_cons ⟨n, rfl, h, by decide, by decide⟩ pl_nil)) rows_nil))))) (by decide) pings_t3 ⟨_, _, rfl, rfl, _, _, rfl, rfl, rfl⟩
theorem pings_t4 : okB (evF (tabW [(7, .es [pe8]), (131, .es [pe9, pe17, pe18, pe19, pe20]), (16, .clo (.b true)), (284, .one (.pr prPong)), (8, .one (.pr (prPl [(0, 8, 4)])))]) 60 3 (L [.b true, .nil]) (stE 34 st0L [])) (.b true) = true := by kernel_rfl
theorem pings_t4_w {A : Nat → Addr} {n : Int} {w : World} (hE : Errs w w.heap.size allE A) (hy : ETy0 w.heap.size w) (hG : ∀ k ∈ allE, ∃ c t, w.heap[gno k]? = some (.cells c t (0, 0))) (h : n % 8 = 4) : CallsF Tryz.prog 3 #[.bool true, .int .i64 n] w fun x w' => x = .bool true ∧ Below w.heap.size w w' :=
  law_run (rows := [(7, .es [pe8]), (131, .es [pe9, pe17, pe18, pe19, pe20]), (16, .clo (.b true)), (284, .one (.pr prPong)), (8, .one (.pr (prPl [(0, 8, 4)])))]) (o := fun _ => .int .i64 n) (ar := (L [.b true, .nil])) hE hy hG (rows_cons (ents_cons po8 ents_nil) (rows_cons (ents_cons po9 (ents_cons po17 (ents_cons po18 (ents_cons po19 (ents_cons po20 ents_nil))))) (rows_cons ⟨rfl, _, awake_o⟩ (rows_cons prPong_ok (rows_cons (prPl_ok (pl_cons ⟨n, rfl, h, by decide, by decide⟩ pl_nil)) rows_nil))))) (by decide) pings_t4 ⟨_, _, rfl, rfl, _, _, rfl, rfl, rfl⟩
theorem pings_t5 : okB (evF (tabW [(7, .es [pe8]), (131, .es [pe9, pe17, pe18, pe19, pe20, pe21]), (16, .clo (.b true)), (284, .one (.pr prPong)), (8, .one (.pr (prPl [(0, 8, 5)])))]) 60 3 (L [.b true, .nil]) (stE 34 st0L [])) (.b true) = true := by kernel_rfl
theorem pings_t5_w {A : Nat → Addr} {n : Int} {w : World} (hE : Errs w w.heap.size allE A) (hy : ETy0 w.heap.size w) (hG : ∀ k ∈ allE, ∃ c t, w.heap[gno k]? = some (.cells c t (0, 0))) (h : n % 8 = 5) : CallsF Tryz.prog 3 #[.bool true, .int .i64 n] w fun x w' => x = .bool true ∧ Below w.heap.size w w' :=
  law_run (rows := [(7, .es [pe8]), (131, .es [pe9, pe17, pe18, pe19, pe20, pe21]), (16, .clo (.b true)), (284, .one (.pr prPong)), (8, .one (.pr (prPl [(0, 8, 5)])))]) (o := fun _ => .int .i64 n) (ar := (L [.b true, .nil])) hE hy hG (rows_cons (ents_cons po8 ents_nil) (rows_cons (ents_cons po9 (ents_cons po17 (ents_cons po18 (ents_cons po19 (ents_cons po20 (ents_cons po21 ents_nil)))))) (rows_cons ⟨rfl, _, awake_o⟩ (rows_cons prPong_ok (rows_cons (prPl_ok (pl_cons ⟨n, rfl, h, by decide, by decide⟩ pl_nil)) rows_nil))))) (by decide) pings_t5 ⟨_, _, rfl, rfl, _, _, rfl, rfl, rfl⟩
theorem pings_t6 : okB (evF (tabW [(7, .es [pe8]), (131, .es [pe9, pe17, pe18, pe19, pe20, pe21, pe22]), (16, .clo (.b true)), (284, .one (.pr prPong)), (8, .one (.pr (prPl [(0, 8, 6)])))]) 60 3 (L [.b true, .nil]) (stE 34 st0L [])) (.b true) = true := by kernel_rfl
theorem pings_t6_w {A : Nat → Addr} {n : Int} {w : World} (hE : Errs w w.heap.size allE A) (hy : ETy0 w.heap.size w) (hG : ∀ k ∈ allE, ∃ c t, w.heap[gno k]? = some (.cells c t (0, 0))) (h : n % 8 = 6) : CallsF Tryz.prog 3 #[.bool true, .int .i64 n] w fun x w' => x = .bool true ∧ Below w.heap.size w w' :=
  law_run (rows := [(7, .es [pe8]), (131, .es [pe9, pe17, pe18, pe19, pe20, pe21, pe22]), (16, .clo (.b true)), (284, .one (.pr prPong)), (8, .one (.pr (prPl [(0, 8, 6)])))]) (o := fun _ => .int .i64 n) (ar := (L [.b true, .nil])) hE hy hG (rows_cons (ents_cons po8 ents_nil) (rows_cons (ents_cons po9 (ents_cons po17 (ents_cons po18 (ents_cons po19 (ents_cons po20 (ents_cons po21 (ents_cons po22 ents_nil))))))) (rows_cons ⟨rfl, _, awake_o⟩ (rows_cons prPong_ok (rows_cons (prPl_ok (pl_cons ⟨n, rfl, h, by decide, by decide⟩ pl_nil)) rows_nil))))) (by decide) pings_t6 ⟨_, _, rfl, rfl, _, _, rfl, rfl, rfl⟩
theorem pings_t7 : okB (evF (tabW [(7, .es [pe8]), (131, .es [pe9, pe17, pe18, pe19, pe20, pe21, pe22, pe23]), (16, .clo (.b true)), (284, .one (.pr prPong)), (8, .one (.pr (prPl [(0, 8, 7)])))]) 60 3 (L [.b true, .nil]) (stE 34 st0L [])) (.b true) = true := by kernel_rfl
theorem pings_t7_w {A : Nat → Addr} {n : Int} {w : World} (hE : Errs w w.heap.size allE A) (hy : ETy0 w.heap.size w) (hG : ∀ k ∈ allE, ∃ c t, w.heap[gno k]? = some (.cells c t (0, 0))) (h : n % 8 = 7) : CallsF Tryz.prog 3 #[.bool true, .int .i64 n] w fun x w' => x = .bool true ∧ Below w.heap.size w w' :=
  law_run (rows := [(7, .es [pe8]), (131, .es [pe9, pe17, pe18, pe19, pe20, pe21, pe22, pe23]), (16, .clo (.b true)), (284, .one (.pr prPong)), (8, .one (.pr (prPl [(0, 8, 7)])))]) (o := fun _ => .int .i64 n) (ar := (L [.b true, .nil])) hE hy hG (rows_cons (ents_cons po8 ents_nil) (rows_cons (ents_cons po9 (ents_cons po17 (ents_cons po18 (ents_cons po19 (ents_cons po20 (ents_cons po21 (ents_cons po22 (ents_cons po23 ents_nil)))))))) (rows_cons ⟨rfl, _, awake_o⟩ (rows_cons prPong_ok (rows_cons (prPl_ok (pl_cons ⟨n, rfl, h, by decide, by decide⟩ pl_nil)) rows_nil))))) (by decide) pings_t7 ⟨_, _, rfl, rfl, _, _, rfl, rfl, rfl⟩
theorem pings_walk (A : Nat → Addr) (a : Bool) (n : Int) (w : World) (hE : Errs w w.heap.size allE A) (hy : ETy0 w.heap.size w) (hG : ∀ k ∈ allE, ∃ c t, w.heap[gno k]? = some (.cells c t (0, 0))) (wn : (Lit.int .i64 n).wf = true) : Calls Tryz.prog 3 #[.bool a, .int .i64 n] w fun e w' => e = .returned (.bool true) ∧ Below w.heap.size w w' := by
  have hent : (callFunc 3 #[.bool a, .int .i64 n]).run Tryz.prog w = .ok (.enter 3 #[.bool a, .int .i64 n]) w := ent_of Tryz.func3 (by kernel_rfl) rfl _ _
  have hk : n % 8 = 0 ∨ n % 8 = 1 ∨ n % 8 = 2 ∨ n % 8 = 3 ∨ n % 8 = 4 ∨ n % 8 = 5 ∨ n % 8 = 6 ∨ n % 8 = 7 := by omega
  cases a <;> rcases hk with h | h | h | h | h | h | h | h
  · exact callsF_calls (pings_f0_w hE hy hG h) hent
  · exact callsF_calls (pings_f1_w hE hy hG h) hent
  · exact callsF_calls (pings_f2_w hE hy hG h) hent
  · exact callsF_calls (pings_f3_w hE hy hG h) hent
  · exact callsF_calls (pings_f4_w hE hy hG h) hent
  · exact callsF_calls (pings_f5_w hE hy hG h) hent
  · exact callsF_calls (pings_f6_w hE hy hG h) hent
  · exact callsF_calls (pings_f7_w hE hy hG h) hent
  · exact callsF_calls (pings_t0_w hE hy hG h) hent
  · exact callsF_calls (pings_t1_w hE hy hG h) hent
  · exact callsF_calls (pings_t2_w hE hy hG h) hent
  · exact callsF_calls (pings_t3_w hE hy hG h) hent
  · exact callsF_calls (pings_t4_w hE hy hG h) hent
  · exact callsF_calls (pings_t5_w hE hy hG h) hent
  · exact callsF_calls (pings_t6_w hE hy hG h) hent
  · exact callsF_calls (pings_t7_w hE hy hG h) hent
end Go.Proofs.YtenpbpgoglepfaaGreatDoor
namespace Go.Proofs.YtenpbpgoglepfaaGreatDoor
open Go.ChangeShapes Go.WideShapes Go.ChangeAt Go.RowKit Go.Deep
set_option maxRecDepth 100000

section
variable {H : Type} {enc : TypeId × Value → H} {P : Program} {w : World}
theorem spot_of_cell {w : World} {a : Addr} {v : Value} (h : w.cell? a = some v) : a.spot = none := World.cell?_spot h
/-- A slice of whole numbers. -/
theorem open_ints_sl {T e : TypeId} {k : IntKind} {v : Value} {d : DataW H} {p : List MemPlace} {base0 : Nat} (hT : P.underlying T = some (.slice e)) (he : P.underlying e = some (.int k)) (hc : P.cellsOf e = 1)
    (h : DataW.Trod enc P w 0 (fun _ => true) true T v d p) (hv : Value.okWide P w .any base0 T v) (hr : ∀ n ∈ d.weights P T, decide (n ≤ reachBytes) = true) :
    ∃ zs : List Int, Sl w w.heap.size v (zs.map (Value.int k)) ∧ (∀ n ∈ zs, (Lit.int k n).wf = true) ∧ zs.length * P.bytesOf e ≤ 140737488351232 := by
  obtain ⟨a0, len, cap, rfl⟩ := okWide_slice hT hv
  obtain ⟨fuel, hf⟩ := h
  rcases open_ints hT he hc hf with ⟨hcs, hx⟩ | ⟨x, l, c, zs, hcs, _, hl, hm, hz, hx, hcell, hwz⟩
  · simp [Value.cells] at hcs
    obtain ⟨rfl, rfl, rfl⟩ := hcs
    exact ⟨[], Sl.nil_ _ _, by simp, by simp⟩
  · simp [Value.cells] at hcs
    obtain ⟨rfl, rfl, rfl⟩ := hcs
    have hz' : zs.length = cap := by simpa using hz
    have hlen : (zs.take len).length = len := by simp; omega
    refine ⟨zs.take len, ?_, fun n hn => hwz n (List.mem_of_mem_take hn), ?_⟩
    · show SlN _ _ _ _ _ _
      rw [List.length_map, hlen]
      refine ⟨by simp; omega, some x, cap, rfl, hl, hm, (fun h => by cases h), fun hp => ?_⟩
      obtain ⟨b, off, spot⟩ := x
      have h0 := hcell 0 (by omega)
      have hs : spot = none := by simpa [Addr.add] using World.cell?_spot h0
      subst hs
      have hlt := World.block_lt_of_cell? _ _ h0
      refine ⟨b, off, rfl, by simpa [Addr.add] using hlt, fun j u hu => ?_⟩
      have hj : j < len := by
        have := (List.getElem?_eq_some_iff.1 hu).1
        simp at this
        omega
      have := hcell j (by omega)
      rw [List.getElem?_map, List.getElem?_take_of_lt hj, List.getElem?_eq_getElem (by omega)] at hu
      simp only [Option.map_some, Option.some.injEq] at hu
      subst hu
      rw [List.getD_eq_getElem?_getD, List.getElem?_eq_getElem (by omega)] at this
      rcases Nat.eq_zero_or_pos j with rfl | hj0
      · simpa [Addr.add] using this
      · have hne : j ≠ 0 := by omega
        simpa [Addr.add, hne] using this
    · simp only [Prod.mk.injEq] at hx
      rw [hx.1] at hr
      have := hr (((lits (H := H) k (zs.take len)).length + (lits (H := H) k (zs.drop len)).length) * P.bytesOf e) (by simp [DataW.weights, hT])
      have h2 := of_decide_eq_true this
      simp [reachBytes, lits] at h2
      have : len * P.bytesOf e ≤ cap * P.bytesOf e := Nat.mul_le_mul_right _ hl
      rw [hlen]
      have e1 : min len zs.length + (zs.length - len) = cap := by omega
      rw [e1] at h2
      omega
end
theorem open_i64s {H : Type} {enc : TypeId × Value → H} {w : World} {base0 : Nat} {v : Value} {d : DataW H} {p : List MemPlace} (h : DataW.Trod enc Tryz.prog w 0 (fun _ => true) true 52 v d p) (hv : Value.okWide Tryz.prog w .any base0 52 v) (hr : ∀ n ∈ d.weights Tryz.prog 52, decide (n ≤ reachBytes) = true) :
    ∃ zs : List Int, Sl w w.heap.size v (zs.map (Value.int .i64)) ∧ (∀ n ∈ zs, (Lit.int .i64 n).wf = true) ∧ zs.length * 8 ≤ 140737488351232 := open_ints_sl Tryz.underlying52 Tryz.underlying3 (by kernel_rfl) h hv hr
theorem open_u32s {H : Type} {enc : TypeId × Value → H} {w : World} {base0 : Nat} {v : Value} {d : DataW H} {p : List MemPlace} (h : DataW.Trod enc Tryz.prog w 0 (fun _ => true) true 49 v d p) (hv : Value.okWide Tryz.prog w .any base0 49 v) (hr : ∀ n ∈ d.weights Tryz.prog 49, decide (n ≤ reachBytes) = true) :
    ∃ zs : List Int, Sl w w.heap.size v (zs.map (Value.int .u32)) ∧ (∀ n ∈ zs, (Lit.int .u32 n).wf = true) ∧ zs.length * 4 ≤ 140737488351232 := open_ints_sl Tryz.underlying49 Tryz.underlying48 (by kernel_rfl) h hv hr
theorem open_u8s {H : Type} {enc : TypeId × Value → H} {w : World} {base0 : Nat} {v : Value} {d : DataW H} {p : List MemPlace} (h : DataW.Trod enc Tryz.prog w 0 (fun _ => true) true 60 v d p) (hv : Value.okWide Tryz.prog w .any base0 60 v) (hr : ∀ n ∈ d.weights Tryz.prog 60, decide (n ≤ reachBytes) = true) :
    ∃ zs : List Int, Sl w w.heap.size v (zs.map (Value.int .u8)) ∧ (∀ n ∈ zs, (Lit.int .u8 n).wf = true) ∧ zs.length * 1 ≤ 140737488351232 := open_ints_sl Tryz.underlying60 Tryz.underlying5 (by kernel_rfl) h hv hr

/-- Bytes that came in, as bytes. -/
theorem bytes_of_ints {w : World} {B : Nat} {v : Value} {zs : List Int} (h : Sl w B v (zs.map (Value.int .u8))) (hz : ∀ n ∈ zs, (Lit.int .u8 n).wf = true) :
    ∃ bs : List UInt8, Sl w B v (bv bs) ∧ bs.length = zs.length := by
  refine ⟨zs.map fun n => UInt8.ofNat n.toNat, ?_, by simp⟩
  have e : bv (zs.map fun n => UInt8.ofNat n.toNat) = zs.map (Value.int .u8) := by
    simp only [bv, List.map_map]
    refine List.map_congr_left fun n hn => ?_
    have := bounds_u8 (hz n hn)
    simp only [Function.comp, Value.int.injEq, true_and]
    rw [UInt8.toNat_ofNat']
    omega
  rw [e]; exact h
theorem open_bytes {H : Type} {enc : TypeId × Value → H} {w : World} {base0 : Nat} {v : Value} {d : DataW H} {p : List MemPlace} (h : DataW.Trod enc Tryz.prog w 0 (fun _ => true) true 60 v d p) (hv : Value.okWide Tryz.prog w .any base0 60 v) (hr : ∀ n ∈ d.weights Tryz.prog 60, decide (n ≤ reachBytes) = true) :
    ∃ bs : List UInt8, Sl w w.heap.size v (bv bs) ∧ bs.length ≤ 140737488351232 := by
  obtain ⟨zs, h1, h2, h3⟩ := open_u8s h hv hr
  obtain ⟨bs, h4, h5⟩ := bytes_of_ints h1 h2
  exact ⟨bs, h4, by omega⟩
end Go.Proofs.YtenpbpgoglepfaaGreatDoor
