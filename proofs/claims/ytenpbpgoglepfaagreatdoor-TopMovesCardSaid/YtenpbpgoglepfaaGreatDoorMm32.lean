/- TopMoves: every case (printed by ev/py). No condition. -/
import Derived.Test.YtenpbpgoglepfaaGreatDoorMm11
import Derived.Test.YtenpbpgoglepfaaGreatDoorMm23
import Derived.Test.YtenpbpgoglepfaaGreatDoorMm24
import Derived.Test.YtenpbpgoglepfaaGreatDoorMm25
import Derived.Test.YtenpbpgoglepfaaGreatDoorMm26
import Derived.Test.YtenpbpgoglepfaaGreatDoorMm27
import Derived.Test.YtenpbpgoglepfaaGreatDoorMm28
import Derived.Test.YtenpbpgoglepfaaGreatDoorMm29
import Derived.Test.YtenpbpgoglepfaaGreatDoorMm30
import Derived.Test.YtenpbpgoglepfaaGreatDoorMm31
import Derived.Test.YtenpbpgoglepfaaGreatDoorMm1
import Derived.Test.YtenpbpgoglepfaaGreatDoorChecked
import Derived.ProofKit
import Derived.OpenShut
import Derived.SizedLaws
import Derived.ChangeOld
import Derived.Deep.Slices
import Derived.Deep.Fields
namespace Go.Proofs.YtenpbpgoglepfaaGreatDoor
open Go.RowKit
set_option linter.unusedVariables false
set_option maxRecDepth 100000
theorem mc_ff_all (a b : Nat) (ha : a < 8) (hb : b < 8) : mc_ff a b = true := by
  have h : a = 0 ∨ a = 1 ∨ a = 2 ∨ a = 3 ∨ a = 4 ∨ a = 5 ∨ a = 6 ∨ a = 7 := by omega
  have k : b = 0 ∨ b = 1 ∨ b = 2 ∨ b = 3 ∨ b = 4 ∨ b = 5 ∨ b = 6 ∨ b = 7 := by omega
  clear ha hb
  rcases h with rfl | rfl | rfl | rfl | rfl | rfl | rfl | rfl <;> rcases k with rfl | rfl | rfl | rfl | rfl | rfl | rfl | rfl
  · exact mc_ff_0_0
  · exact mc_ff_0_1
  · exact mc_ff_0_2
  · exact mc_ff_0_3
  · exact mc_ff_0_4
  · exact mc_ff_0_5
  · exact mc_ff_0_6
  · exact mc_ff_0_7
  · exact mc_ff_1_0
  · exact mc_ff_1_1
  · exact mc_ff_1_2
  · exact mc_ff_1_3
  · exact mc_ff_1_4
  · exact mc_ff_1_5
  · exact mc_ff_1_6
  · exact mc_ff_1_7
  · exact mc_ff_2_0
  · exact mc_ff_2_1
  · exact mc_ff_2_2
  · exact mc_ff_2_3
  · exact mc_ff_2_4
  · exact mc_ff_2_5
  · exact mc_ff_2_6
  · exact mc_ff_2_7
  · exact mc_ff_3_0
  · exact mc_ff_3_1
  · exact mc_ff_3_2
  · exact mc_ff_3_3
  · exact mc_ff_3_4
  · exact mc_ff_3_5
  · exact mc_ff_3_6
  · exact mc_ff_3_7
  · exact mc_ff_4_0
  · exact mc_ff_4_1
  · exact mc_ff_4_2
  · exact mc_ff_4_3
  · exact mc_ff_4_4
  · exact mc_ff_4_5
  · exact mc_ff_4_6
  · exact mc_ff_4_7
  · exact mc_ff_5_0
  · exact mc_ff_5_1
  · exact mc_ff_5_2
  · exact mc_ff_5_3
  · exact mc_ff_5_4
  · exact mc_ff_5_5
  · exact mc_ff_5_6
  · exact mc_ff_5_7
  · exact mc_ff_6_0
  · exact mc_ff_6_1
  · exact mc_ff_6_2
  · exact mc_ff_6_3
  · exact mc_ff_6_4
  · exact mc_ff_6_5
  · exact mc_ff_6_6
  · exact mc_ff_6_7
  · exact mc_ff_7_0
  · exact mc_ff_7_1
  · exact mc_ff_7_2
  · exact mc_ff_7_3
  · exact mc_ff_7_4
  · exact mc_ff_7_5
  · exact mc_ff_7_6
  · exact mc_ff_7_7
theorem mw_ff {A : Nat → Addr} (x y u v : Int) {w : World} (hE : Errs w w.heap.size allE A) (hy : ETy0 w.heap.size w) (hG : ∀ k ∈ allE, ∃ c t, w.heap[gno k]? = some (.cells c t (0, 0))) : CallsF Tryz.prog 5 #[.int .i64 x, .int .i64 y, .int .i64 u, .int .i64 v, .bool false, .bool false] w fun x w' => x = .bool true ∧ Below w.heap.size w w' :=
  law_run (rows := mr_ff (x4 x y u v 0 % 8).toNat (x4 x y u v 1 % 8).toNat) (o := o4 x y u v) (k := 60) (ar := (L [.nil, (.cons .nil .nil), (.cons .nil (.cons .nil .nil)), (.cons .nil (.cons .nil (.cons .nil .nil))), .b false, .b false])) hE hy hG (o4_good x y u v) (mr_ff_ok (by omega) (by omega)) (by decide) (mc_ff_all _ _ (by omega) (by omega)) ⟨_, _, rfl, rfl, _, _, rfl, rfl, _, _, rfl, rfl, _, _, rfl, rfl, _, _, rfl, rfl, _, _, rfl, rfl, rfl⟩
theorem mc_ft_all (a b : Nat) (ha : a < 8) (hb : b < 8) : mc_ft a b = true := by
  have h : a = 0 ∨ a = 1 ∨ a = 2 ∨ a = 3 ∨ a = 4 ∨ a = 5 ∨ a = 6 ∨ a = 7 := by omega
  have k : b = 0 ∨ b = 1 ∨ b = 2 ∨ b = 3 ∨ b = 4 ∨ b = 5 ∨ b = 6 ∨ b = 7 := by omega
  clear ha hb
  rcases h with rfl | rfl | rfl | rfl | rfl | rfl | rfl | rfl <;> rcases k with rfl | rfl | rfl | rfl | rfl | rfl | rfl | rfl
  · exact mc_ft_0_0
  · exact mc_ft_0_1
  · exact mc_ft_0_2
  · exact mc_ft_0_3
  · exact mc_ft_0_4
  · exact mc_ft_0_5
  · exact mc_ft_0_6
  · exact mc_ft_0_7
  · exact mc_ft_1_0
  · exact mc_ft_1_1
  · exact mc_ft_1_2
  · exact mc_ft_1_3
  · exact mc_ft_1_4
  · exact mc_ft_1_5
  · exact mc_ft_1_6
  · exact mc_ft_1_7
  · exact mc_ft_2_0
  · exact mc_ft_2_1
  · exact mc_ft_2_2
  · exact mc_ft_2_3
  · exact mc_ft_2_4
  · exact mc_ft_2_5
  · exact mc_ft_2_6
  · exact mc_ft_2_7
  · exact mc_ft_3_0
  · exact mc_ft_3_1
  · exact mc_ft_3_2
  · exact mc_ft_3_3
  · exact mc_ft_3_4
  · exact mc_ft_3_5
  · exact mc_ft_3_6
  · exact mc_ft_3_7
  · exact mc_ft_4_0
  · exact mc_ft_4_1
  · exact mc_ft_4_2
  · exact mc_ft_4_3
  · exact mc_ft_4_4
  · exact mc_ft_4_5
  · exact mc_ft_4_6
  · exact mc_ft_4_7
  · exact mc_ft_5_0
  · exact mc_ft_5_1
  · exact mc_ft_5_2
  · exact mc_ft_5_3
  · exact mc_ft_5_4
  · exact mc_ft_5_5
  · exact mc_ft_5_6
  · exact mc_ft_5_7
  · exact mc_ft_6_0
  · exact mc_ft_6_1
  · exact mc_ft_6_2
  · exact mc_ft_6_3
  · exact mc_ft_6_4
  · exact mc_ft_6_5
  · exact mc_ft_6_6
  · exact mc_ft_6_7
  · exact mc_ft_7_0
  · exact mc_ft_7_1
  · exact mc_ft_7_2
  · exact mc_ft_7_3
  · exact mc_ft_7_4
  · exact mc_ft_7_5
  · exact mc_ft_7_6
  · exact mc_ft_7_7
theorem mw_ft {A : Nat → Addr} (x y u v : Int) {w : World} (hE : Errs w w.heap.size allE A) (hy : ETy0 w.heap.size w) (hG : ∀ k ∈ allE, ∃ c t, w.heap[gno k]? = some (.cells c t (0, 0))) : CallsF Tryz.prog 5 #[.int .i64 x, .int .i64 y, .int .i64 u, .int .i64 v, .bool false, .bool true] w fun x w' => x = .bool true ∧ Below w.heap.size w w' :=
  law_run (rows := mr_ft (x4 x y u v 2 % 8).toNat (x4 x y u v 3 % 8).toNat) (o := o4 x y u v) (k := 60) (ar := (L [.nil, (.cons .nil .nil), (.cons .nil (.cons .nil .nil)), (.cons .nil (.cons .nil (.cons .nil .nil))), .b false, .b true])) hE hy hG (o4_good x y u v) (mr_ft_ok (by omega) (by omega)) (by decide) (mc_ft_all _ _ (by omega) (by omega)) ⟨_, _, rfl, rfl, _, _, rfl, rfl, _, _, rfl, rfl, _, _, rfl, rfl, _, _, rfl, rfl, _, _, rfl, rfl, rfl⟩
theorem mc_tf_all (a b : Nat) (ha : a < 8) (hb : b < 8) : mc_tf a b = true := by
  have h : a = 0 ∨ a = 1 ∨ a = 2 ∨ a = 3 ∨ a = 4 ∨ a = 5 ∨ a = 6 ∨ a = 7 := by omega
  have k : b = 0 ∨ b = 1 ∨ b = 2 ∨ b = 3 ∨ b = 4 ∨ b = 5 ∨ b = 6 ∨ b = 7 := by omega
  clear ha hb
  rcases h with rfl | rfl | rfl | rfl | rfl | rfl | rfl | rfl <;> rcases k with rfl | rfl | rfl | rfl | rfl | rfl | rfl | rfl
  · exact mc_tf_0_0
  · exact mc_tf_0_1
  · exact mc_tf_0_2
  · exact mc_tf_0_3
  · exact mc_tf_0_4
  · exact mc_tf_0_5
  · exact mc_tf_0_6
  · exact mc_tf_0_7
  · exact mc_tf_1_0
  · exact mc_tf_1_1
  · exact mc_tf_1_2
  · exact mc_tf_1_3
  · exact mc_tf_1_4
  · exact mc_tf_1_5
  · exact mc_tf_1_6
  · exact mc_tf_1_7
  · exact mc_tf_2_0
  · exact mc_tf_2_1
  · exact mc_tf_2_2
  · exact mc_tf_2_3
  · exact mc_tf_2_4
  · exact mc_tf_2_5
  · exact mc_tf_2_6
  · exact mc_tf_2_7
  · exact mc_tf_3_0
  · exact mc_tf_3_1
  · exact mc_tf_3_2
  · exact mc_tf_3_3
  · exact mc_tf_3_4
  · exact mc_tf_3_5
  · exact mc_tf_3_6
  · exact mc_tf_3_7
  · exact mc_tf_4_0
  · exact mc_tf_4_1
  · exact mc_tf_4_2
  · exact mc_tf_4_3
  · exact mc_tf_4_4
  · exact mc_tf_4_5
  · exact mc_tf_4_6
  · exact mc_tf_4_7
  · exact mc_tf_5_0
  · exact mc_tf_5_1
  · exact mc_tf_5_2
  · exact mc_tf_5_3
  · exact mc_tf_5_4
  · exact mc_tf_5_5
  · exact mc_tf_5_6
  · exact mc_tf_5_7
  · exact mc_tf_6_0
  · exact mc_tf_6_1
  · exact mc_tf_6_2
  · exact mc_tf_6_3
  · exact mc_tf_6_4
  · exact mc_tf_6_5
  · exact mc_tf_6_6
  · exact mc_tf_6_7
  · exact mc_tf_7_0
  · exact mc_tf_7_1
  · exact mc_tf_7_2
  · exact mc_tf_7_3
  · exact mc_tf_7_4
  · exact mc_tf_7_5
  · exact mc_tf_7_6
  · exact mc_tf_7_7
theorem mw_tf {A : Nat → Addr} (x y u v : Int) {w : World} (hE : Errs w w.heap.size allE A) (hy : ETy0 w.heap.size w) (hG : ∀ k ∈ allE, ∃ c t, w.heap[gno k]? = some (.cells c t (0, 0))) : CallsF Tryz.prog 5 #[.int .i64 x, .int .i64 y, .int .i64 u, .int .i64 v, .bool true, .bool false] w fun x w' => x = .bool true ∧ Below w.heap.size w w' :=
  law_run (rows := mr_tf (x4 x y u v 0 % 8).toNat (x4 x y u v 1 % 8).toNat) (o := o4 x y u v) (k := 60) (ar := (L [.nil, (.cons .nil .nil), (.cons .nil (.cons .nil .nil)), (.cons .nil (.cons .nil (.cons .nil .nil))), .b true, .b false])) hE hy hG (o4_good x y u v) (mr_tf_ok (by omega) (by omega)) (by decide) (mc_tf_all _ _ (by omega) (by omega)) ⟨_, _, rfl, rfl, _, _, rfl, rfl, _, _, rfl, rfl, _, _, rfl, rfl, _, _, rfl, rfl, _, _, rfl, rfl, rfl⟩
theorem mc_tt_all (a b : Nat) (ha : a < 8) (hb : b < 8) : mc_tt a b = true := by
  have h : a = 0 ∨ a = 1 ∨ a = 2 ∨ a = 3 ∨ a = 4 ∨ a = 5 ∨ a = 6 ∨ a = 7 := by omega
  have k : b = 0 ∨ b = 1 ∨ b = 2 ∨ b = 3 ∨ b = 4 ∨ b = 5 ∨ b = 6 ∨ b = 7 := by omega
  clear ha hb
  rcases h with rfl | rfl | rfl | rfl | rfl | rfl | rfl | rfl <;> rcases k with rfl | rfl | rfl | rfl | rfl | rfl | rfl | rfl
  · exact mc_tt_0_0
  · exact mc_tt_0_1
  · exact mc_tt_0_2
  · exact mc_tt_0_3
  · exact mc_tt_0_4
  · exact mc_tt_0_5
  · exact mc_tt_0_6
  · exact mc_tt_0_7
  · exact mc_tt_1_0
  · exact mc_tt_1_1
  · exact mc_tt_1_2
  · exact mc_tt_1_3
  · exact mc_tt_1_4
  · exact mc_tt_1_5
  · exact mc_tt_1_6
  · exact mc_tt_1_7
  · exact mc_tt_2_0
  · exact mc_tt_2_1
  · exact mc_tt_2_2
  · exact mc_tt_2_3
  · exact mc_tt_2_4
  · exact mc_tt_2_5
  · exact mc_tt_2_6
  · exact mc_tt_2_7
  · exact mc_tt_3_0
  · exact mc_tt_3_1
  · exact mc_tt_3_2
  · exact mc_tt_3_3
  · exact mc_tt_3_4
  · exact mc_tt_3_5
  · exact mc_tt_3_6
  · exact mc_tt_3_7
  · exact mc_tt_4_0
  · exact mc_tt_4_1
  · exact mc_tt_4_2
  · exact mc_tt_4_3
  · exact mc_tt_4_4
  · exact mc_tt_4_5
  · exact mc_tt_4_6
  · exact mc_tt_4_7
  · exact mc_tt_5_0
  · exact mc_tt_5_1
  · exact mc_tt_5_2
  · exact mc_tt_5_3
  · exact mc_tt_5_4
  · exact mc_tt_5_5
  · exact mc_tt_5_6
  · exact mc_tt_5_7
  · exact mc_tt_6_0
  · exact mc_tt_6_1
  · exact mc_tt_6_2
  · exact mc_tt_6_3
  · exact mc_tt_6_4
  · exact mc_tt_6_5
  · exact mc_tt_6_6
  · exact mc_tt_6_7
  · exact mc_tt_7_0
  · exact mc_tt_7_1
  · exact mc_tt_7_2
  · exact mc_tt_7_3
  · exact mc_tt_7_4
  · exact mc_tt_7_5
  · exact mc_tt_7_6
  · exact mc_tt_7_7
theorem mw_tt {A : Nat → Addr} (x y u v : Int) {w : World} (hE : Errs w w.heap.size allE A) (hy : ETy0 w.heap.size w) (hG : ∀ k ∈ allE, ∃ c t, w.heap[gno k]? = some (.cells c t (0, 0))) : CallsF Tryz.prog 5 #[.int .i64 x, .int .i64 y, .int .i64 u, .int .i64 v, .bool true, .bool true] w fun x w' => x = .bool true ∧ Below w.heap.size w w' :=
  law_run (rows := mr_tt (x4 x y u v 2 % 8).toNat (x4 x y u v 3 % 8).toNat) (o := o4 x y u v) (k := 60) (ar := (L [.nil, (.cons .nil .nil), (.cons .nil (.cons .nil .nil)), (.cons .nil (.cons .nil (.cons .nil .nil))), .b true, .b true])) hE hy hG (o4_good x y u v) (mr_tt_ok (by omega) (by omega)) (by decide) (mc_tt_all _ _ (by omega) (by omega)) ⟨_, _, rfl, rfl, _, _, rfl, rfl, _, _, rfl, rfl, _, _, rfl, rfl, _, _, rfl, rfl, _, _, rfl, rfl, rfl⟩
theorem moves_walk (A : Nat → Addr) (x y u v : Int) (on commit : Bool) (w : World) (hE : Errs w w.heap.size allE A) (hy : ETy0 w.heap.size w) (hG : ∀ k ∈ allE, ∃ c t, w.heap[gno k]? = some (.cells c t (0, 0))) (wx : (Lit.int .i64 x).wf = true) (wy : (Lit.int .i64 y).wf = true) (wu : (Lit.int .i64 u).wf = true) (wv : (Lit.int .i64 v).wf = true) : Calls Tryz.prog 5 #[.int .i64 x, .int .i64 y, .int .i64 u, .int .i64 v, .bool on, .bool commit] w fun e w' => e = .returned (.bool true) ∧ Below w.heap.size w w' := by
  have hent : (callFunc 5 #[.int .i64 x, .int .i64 y, .int .i64 u, .int .i64 v, .bool on, .bool commit]).run Tryz.prog w = .ok (.enter 5 #[.int .i64 x, .int .i64 y, .int .i64 u, .int .i64 v, .bool on, .bool commit]) w := ent_of Tryz.func5 (by kernel_rfl) rfl _ _
  cases on <;> cases commit
  · exact callsF_calls (mw_ff x y u v hE hy hG) hent
  · exact callsF_calls (mw_ft x y u v hE hy hG) hent
  · exact callsF_calls (mw_tf x y u v hE hy hG) hent
  · exact callsF_calls (mw_tt x y u v hE hy hG) hent
end Go.Proofs.YtenpbpgoglepfaaGreatDoor
namespace Go.Proofs.YtenpbpgoglepfaaGreatDoor
open Go.ChangeShapes Go.WideShapes Go.ChangeAt Go.RowKit Go.Deep
set_option maxRecDepth 100000

section
variable {H : Type} {enc : TypeId × Value → H} {P : Program} {w : World}
theorem spot_of_cell {w : World} {a : Addr} {v : Value} (h : w.cell? a = some v) : a.spot = none := World.cell?_spot h
/-- A slice of whole numbers. -/
theorem open_ints_sl {T e : TypeId} {k : IntKind} {v : Value} {d : DataW H} {p : List MemPlace} {base0 : Nat} (hT : P.underlying T = some (.slice e)) (he : P.underlying e = some (.int k)) (hc : P.cellsOf e = 1)
    (h : DataW.Trod enc P w 0 (fun _ => true) true T v d p) (hv : Value.okWide P w .any base0 T v) (hr : ∀ n ∈ d.weights P T, decide (n ≤ reachBytes) = true) :
    ∃ zs : List Int, Sl w w.heap.size v (zs.map (Value.int k)) ∧ (∀ n ∈ zs, (Lit.int k n).wf = true) ∧ zs.length * P.bytesOf e ≤ 140737488351232 := by
  obtain ⟨a0, len, cap, rfl⟩ := okWide_slice hT hv
  obtain ⟨fuel, hf⟩ := h
  rcases open_ints hT he hc hf with ⟨hcs, hx⟩ | ⟨x, l, c, zs, hcs, _, hl, hm, hz, hx, hcell, hwz⟩
  · simp [Value.cells] at hcs
    obtain ⟨rfl, rfl, rfl⟩ := hcs
    exact ⟨[], Sl.nil_ _ _, by simp, by simp⟩
  · simp [Value.cells] at hcs
    obtain ⟨rfl, rfl, rfl⟩ := hcs
    have hz' : zs.length = cap := by simpa using hz
    have hlen : (zs.take len).length = len := by simp; omega
    refine ⟨zs.take len, ?_, fun n hn => hwz n (List.mem_of_mem_take hn), ?_⟩
    · show SlN _ _ _ _ _ _
      rw [List.length_map, hlen]
      refine ⟨by simp; omega, some x, cap, rfl, hl, hm, (fun h => by cases h), fun hp => ?_⟩
      obtain ⟨b, off, spot⟩ := x
      have h0 := hcell 0 (by omega)
      have hs : spot = none := by simpa [Addr.add] using World.cell?_spot h0
      subst hs
      have hlt := World.block_lt_of_cell? _ _ h0
      refine ⟨b, off, rfl, by simpa [Addr.add] using hlt, fun j u hu => ?_⟩
      have hj : j < len := by
        have := (List.getElem?_eq_some_iff.1 hu).1
        simp at this
        omega
      have := hcell j (by omega)
      rw [List.getElem?_map, List.getElem?_take_of_lt hj, List.getElem?_eq_getElem (by omega)] at hu
      simp only [Option.map_some, Option.some.injEq] at hu
      subst hu
      rw [List.getD_eq_getElem?_getD, List.getElem?_eq_getElem (by omega)] at this
      rcases Nat.eq_zero_or_pos j with rfl | hj0
      · simpa [Addr.add] using this
      · have hne : j ≠ 0 := by omega
        simpa [Addr.add, hne] using this
    · simp only [Prod.mk.injEq] at hx
      rw [hx.1] at hr
      have := hr (((lits (H := H) k (zs.take len)).length + (lits (H := H) k (zs.drop len)).length) * P.bytesOf e) (by simp [DataW.weights, hT])
      have h2 := of_decide_eq_true this
      simp [reachBytes, lits] at h2
      have : len * P.bytesOf e ≤ cap * P.bytesOf e := Nat.mul_le_mul_right _ hl
      rw [hlen]
      have e1 : min len zs.length + (zs.length - len) = cap := by omega
      rw [e1] at h2
      omega
end
theorem open_i64s {H : Type} {enc : TypeId × Value → H} {w : World} {base0 : Nat} {v : Value} {d : DataW H} {p : List MemPlace} (h : DataW.Trod enc Tryz.prog w 0 (fun _ => true) true 52 v d p) (hv : Value.okWide Tryz.prog w .any base0 52 v) (hr : ∀ n ∈ d.weights Tryz.prog 52, decide (n ≤ reachBytes) = true) :
    ∃ zs : List Int, Sl w w.heap.size v (zs.map (Value.int .i64)) ∧ (∀ n ∈ zs, (Lit.int .i64 n).wf = true) ∧ zs.length * 8 ≤ 140737488351232 := open_ints_sl Tryz.underlying52 Tryz.underlying3 (by kernel_rfl) h hv hr
theorem open_u32s {H : Type} {enc : TypeId × Value → H} {w : World} {base0 : Nat} {v : Value} {d : DataW H} {p : List MemPlace} (h : DataW.Trod enc Tryz.prog w 0 (fun _ => true) true 49 v d p) (hv : Value.okWide Tryz.prog w .any base0 49 v) (hr : ∀ n ∈ d.weights Tryz.prog 49, decide (n ≤ reachBytes) = true) :
    ∃ zs : List Int, Sl w w.heap.size v (zs.map (Value.int .u32)) ∧ (∀ n ∈ zs, (Lit.int .u32 n).wf = true) ∧ zs.length * 4 ≤ 140737488351232 := open_ints_sl Tryz.underlying49 Tryz.underlying48 (by kernel_rfl) h hv hr
theorem open_u8s {H : Type} {enc : TypeId × Value → H} {w : World} {base0 : Nat} {v : Value} {d : DataW H} {p : List MemPlace} (h : DataW.Trod enc Tryz.prog w 0 (fun _ => true) true 60 v d p) (hv : Value.okWide Tryz.prog w .any base0 60 v) (hr : ∀ n ∈ d.weights Tryz.prog 60, decide (n ≤ reachBytes) = true) :
    ∃ zs : List Int, Sl w w.heap.size v (zs.map (Value.int .u8)) ∧ (∀ n ∈ zs, (Lit.int .u8 n).wf = true) ∧ zs.length * 1 ≤ 140737488351232 := open_ints_sl Tryz.underlying60 Tryz.underlying5 (by kernel_rfl) h hv hr

/-- Bytes that came in, as bytes. -/
theorem bytes_of_ints {w : World} {B : Nat} {v : Value} {zs : List Int} (h : Sl w B v (zs.map (Value.int .u8))) (hz : ∀ n ∈ zs, (Lit.int .u8 n).wf = true) :
    ∃ bs : List UInt8, Sl w B v (bv bs) ∧ bs.length = zs.length := by
  refine ⟨zs.map fun n => UInt8.ofNat n.toNat, ?_, by simp⟩
  have e : bv (zs.map fun n => UInt8.ofNat n.toNat) = zs.map (Value.int .u8) := by
    simp only [bv, List.map_map]
    refine List.map_congr_left fun n hn => ?_
    have := bounds_u8 (hz n hn)
    simp only [Function.comp, Value.int.injEq, true_and]
    rw [UInt8.toNat_ofNat']
    omega
  rw [e]; exact h
theorem open_bytes {H : Type} {enc : TypeId × Value → H} {w : World} {base0 : Nat} {v : Value} {d : DataW H} {p : List MemPlace} (h : DataW.Trod enc Tryz.prog w 0 (fun _ => true) true 60 v d p) (hv : Value.okWide Tryz.prog w .any base0 60 v) (hr : ∀ n ∈ d.weights Tryz.prog 60, decide (n ≤ reachBytes) = true) :
    ∃ bs : List UInt8, Sl w w.heap.size v (bv bs) ∧ bs.length ≤ 140737488351232 := by
  obtain ⟨zs, h1, h2, h3⟩ := open_u8s h hv hr
  obtain ⟨bs, h4, h5⟩ := bytes_of_ints h1 h2
  exact ⟨bs, h4, by omega⟩
end Go.Proofs.YtenpbpgoglepfaaGreatDoor
