/- TopUnmaps, each case (printed by ev/py). No condition. -/
import Derived.Test.YtenpbpgoglepfaaGreatDoorMu14
import Derived.Test.YtenpbpgoglepfaaGreatDoorMu17
import Derived.Test.YtenpbpgoglepfaaGreatDoorMu1
import Derived.Test.YtenpbpgoglepfaaGreatDoorChecked
import Derived.ProofKit
import Derived.OpenShut
import Derived.SizedLaws
import Derived.ChangeOld
import Derived.Deep.Slices
import Derived.Deep.Fields
namespace Go.Proofs.YtenpbpgoglepfaaGreatDoor
open Go.RowKit
set_option linter.unusedVariables false
set_option maxRecDepth 100000
theorem um_f_f : okB (evF (tabW [(7, .es [we2]), (47, .es [ue7, ue8, ue25, ue29]), (17, .es [ue21]), (81, .es [ue27]), (16, .clo (.b true))]) 60 4 (L [.b false, .b false]) (stE 34 st0L [])) (.b true) = true := by kernel_rfl
theorem um_f_f_w {A : Nat → Addr} {w : World} (hE : Errs w w.heap.size allE A) (hy : ETy0 w.heap.size w) (hG : ∀ k ∈ allE, ∃ c t, w.heap[gno k]? = some (.cells c t (0, 0))) : CallsF Tryz.prog 4 #[.bool false, .bool false] w fun x w' => x = .bool true ∧ Below w.heap.size w w' :=
  law_run (rows := [(7, .es [we2]), (47, .es [ue7, ue8, ue25, ue29]), (17, .es [ue21]), (81, .es [ue27]), (16, .clo (.b true))]) (o := fun _ => .bool true) (ar := (L [.b false, .b false])) hE hy hG (rows_cons (ents_cons wo2 ents_nil) (rows_cons (ents_cons uo7 (ents_cons uo8 (ents_cons uo25 (ents_cons uo29 ents_nil)))) (rows_cons (ents_cons uo21 ents_nil) (rows_cons (ents_cons uo27 ents_nil) (rows_cons ⟨rfl, _, awake_o⟩ rows_nil))))) (by decide) um_f_f ⟨_, _, rfl, rfl, _, _, rfl, rfl, rfl⟩
theorem um_f_t : okB (evF (tabW [(7, .es [we2]), (47, .es [ue7, ue8, ue25, ue34]), (17, .es [ue21]), (81, .es [ue27]), (16, .clo (.b true))]) 60 4 (L [.b false, .b true]) (stE 34 st0L [])) (.b true) = true := by kernel_rfl
theorem um_f_t_w {A : Nat → Addr} {w : World} (hE : Errs w w.heap.size allE A) (hy : ETy0 w.heap.size w) (hG : ∀ k ∈ allE, ∃ c t, w.heap[gno k]? = some (.cells c t (0, 0))) : CallsF Tryz.prog 4 #[.bool false, .bool true] w fun x w' => x = .bool true ∧ Below w.heap.size w w' :=
  law_run (rows := [(7, .es [we2]), (47, .es [ue7, ue8, ue25, ue34]), (17, .es [ue21]), (81, .es [ue27]), (16, .clo (.b true))]) (o := fun _ => .bool true) (ar := (L [.b false, .b true])) hE hy hG (rows_cons (ents_cons wo2 ents_nil) (rows_cons (ents_cons uo7 (ents_cons uo8 (ents_cons uo25 (ents_cons uo34 ents_nil)))) (rows_cons (ents_cons uo21 ents_nil) (rows_cons (ents_cons uo27 ents_nil) (rows_cons ⟨rfl, _, awake_o⟩ rows_nil))))) (by decide) um_f_t ⟨_, _, rfl, rfl, _, _, rfl, rfl, rfl⟩
theorem um_t_f : okB (evF (tabW [(7, .es [we2]), (47, .es [ue7, ue8, ue37, ue41]), (17, .es [ue21]), (81, .es [ue39]), (16, .clo (.b true))]) 60 4 (L [.b true, .b false]) (stE 34 st0L [])) (.b true) = true := by kernel_rfl
theorem um_t_f_w {A : Nat → Addr} {w : World} (hE : Errs w w.heap.size allE A) (hy : ETy0 w.heap.size w) (hG : ∀ k ∈ allE, ∃ c t, w.heap[gno k]? = some (.cells c t (0, 0))) : CallsF Tryz.prog 4 #[.bool true, .bool false] w fun x w' => x = .bool true ∧ Below w.heap.size w w' :=
  law_run (rows := [(7, .es [we2]), (47, .es [ue7, ue8, ue37, ue41]), (17, .es [ue21]), (81, .es [ue39]), (16, .clo (.b true))]) (o := fun _ => .bool true) (ar := (L [.b true, .b false])) hE hy hG (rows_cons (ents_cons wo2 ents_nil) (rows_cons (ents_cons uo7 (ents_cons uo8 (ents_cons uo37 (ents_cons uo41 ents_nil)))) (rows_cons (ents_cons uo21 ents_nil) (rows_cons (ents_cons uo39 ents_nil) (rows_cons ⟨rfl, _, awake_o⟩ rows_nil))))) (by decide) um_t_f ⟨_, _, rfl, rfl, _, _, rfl, rfl, rfl⟩
theorem um_t_t : okB (evF (tabW [(7, .es [we2]), (47, .es [ue7, ue8, ue37, ue46]), (17, .es [ue21]), (81, .es [ue39]), (16, .clo (.b true))]) 60 4 (L [.b true, .b true]) (stE 34 st0L [])) (.b true) = true := by kernel_rfl
theorem um_t_t_w {A : Nat → Addr} {w : World} (hE : Errs w w.heap.size allE A) (hy : ETy0 w.heap.size w) (hG : ∀ k ∈ allE, ∃ c t, w.heap[gno k]? = some (.cells c t (0, 0))) : CallsF Tryz.prog 4 #[.bool true, .bool true] w fun x w' => x = .bool true ∧ Below w.heap.size w w' :=
  law_run (rows := [(7, .es [we2]), (47, .es [ue7, ue8, ue37, ue46]), (17, .es [ue21]), (81, .es [ue39]), (16, .clo (.b true))]) (o := fun _ => .bool true) (ar := (L [.b true, .b true])) hE hy hG (rows_cons (ents_cons wo2 ents_nil) (rows_cons (ents_cons uo7 (ents_cons uo8 (ents_cons uo37 (ents_cons uo46 ents_nil)))) (rows_cons (ents_cons uo21 ents_nil) (rows_cons (ents_cons uo39 ents_nil) (rows_cons ⟨rfl, _, awake_o⟩ rows_nil))))) (by decide) um_t_t ⟨_, _, rfl, rfl, _, _, rfl, rfl, rfl⟩
theorem unmaps_walk (A : Nat → Addr) (a b : Bool) (w : World) (hE : Errs w w.heap.size allE A) (hy : ETy0 w.heap.size w) (hG : ∀ k ∈ allE, ∃ c t, w.heap[gno k]? = some (.cells c t (0, 0))) : Calls Tryz.prog 4 #[.bool a, .bool b] w fun e w' => e = .returned (.bool true) ∧ Below w.heap.size w w' := by
  have hent : (callFunc 4 #[.bool a, .bool b]).run Tryz.prog w = .ok (.enter 4 #[.bool a, .bool b]) w := ent_of Tryz.func4 (by kernel_rfl) rfl _ _
  cases a <;> cases b
  · exact callsF_calls (um_f_f_w hE hy hG) hent
  · exact callsF_calls (um_f_t_w hE hy hG) hent
  · exact callsF_calls (um_t_f_w hE hy hG) hent
  · exact callsF_calls (um_t_t_w hE hy hG) hent
end Go.Proofs.YtenpbpgoglepfaaGreatDoor
namespace Go.Proofs.YtenpbpgoglepfaaGreatDoor
open Go.ChangeShapes Go.WideShapes Go.ChangeAt Go.RowKit Go.Deep
set_option maxRecDepth 100000

section
variable {H : Type} {enc : TypeId × Value → H} {P : Program} {w : World}
theorem spot_of_cell {w : World} {a : Addr} {v : Value} (h : w.cell? a = some v) : a.spot = none := World.cell?_spot h
/-- A slice of whole numbers. -/
theorem open_ints_sl {T e : TypeId} {k : IntKind} {v : Value} {d : DataW H} {p : List MemPlace} {base0 : Nat} (hT : P.underlying T = some (.slice e)) (he : P.underlying e = some (.int k)) (hc : P.cellsOf e = 1)
    (h : DataW.Trod enc P w 0 (fun _ => true) true T v d p) (hv : Value.okWide P w .any base0 T v) (hr : ∀ n ∈ d.weights P T, decide (n ≤ reachBytes) = true) :
    ∃ zs : List Int, Sl w w.heap.size v (zs.map (Value.int k)) ∧ (∀ n ∈ zs, (Lit.int k n).wf = true) ∧ zs.length * P.bytesOf e ≤ 140737488351232 := by
  obtain ⟨a0, len, cap, rfl⟩ := okWide_slice hT hv
  obtain ⟨fuel, hf⟩ := h
  rcases open_ints hT he hc hf with ⟨hcs, hx⟩ | ⟨x, l, c, zs, hcs, _, hl, hm, hz, hx, hcell, hwz⟩
  · simp [Value.cells] at hcs
    obtain ⟨rfl, rfl, rfl⟩ := hcs
    exact ⟨[], Sl.nil_ _ _, by simp, by simp⟩
  · simp [Value.cells] at hcs
    obtain ⟨rfl, rfl, rfl⟩ := hcs
    have hz' : zs.length = cap := by simpa using hz
    have hlen : (zs.take len).length = len := by simp; omega
    refine ⟨zs.take len, ?_, fun n hn => hwz n (List.mem_of_mem_take hn), ?_⟩
    · show SlN _ _ _ _ _ _
      rw [List.length_map, hlen]
      refine ⟨by simp; omega, some x, cap, rfl, hl, hm, (fun h => by cases h), fun hp => ?_⟩
      obtain ⟨b, off, spot⟩ := x
      have h0 := hcell 0 (by omega)
      have hs : spot = none := by simpa [Addr.add] using World.cell?_spot h0
      subst hs
      have hlt := World.block_lt_of_cell? _ _ h0
      refine ⟨b, off, rfl, by simpa [Addr.add] using hlt, fun j u hu => ?_⟩
      have hj : j < len := by
        have := (List.getElem?_eq_some_iff.1 hu).1
        simp at this
        omega
      have := hcell j (by omega)
      rw [List.getElem?_map, List.getElem?_take_of_lt hj, List.getElem?_eq_getElem (by omega)] at hu
      simp only [Option.map_some, Option.some.injEq] at hu
      subst hu
      rw [List.getD_eq_getElem?_getD, List.getElem?_eq_getElem (by omega)] at this
      rcases Nat.eq_zero_or_pos j with rfl | hj0
      · simpa [Addr.add] using this
      · have hne : j ≠ 0 := by omega
        simpa [Addr.add, hne] using this
    · simp only [Prod.mk.injEq] at hx
      rw [hx.1] at hr
      have := hr (((lits (H := H) k (zs.take len)).length + (lits (H := H) k (zs.drop len)).length) * P.bytesOf e) (by simp [DataW.weights, hT])
      have h2 := of_decide_eq_true this
      simp [reachBytes, lits] at h2
      have : len * P.bytesOf e ≤ cap * P.bytesOf e := Nat.mul_le_mul_right _ hl
      rw [hlen]
      have e1 : min len zs.length + (zs.length - len) = cap := by omega
      rw [e1] at h2
      omega
end
theorem open_i64s {H : Type} {enc : TypeId × Value → H} {w : World} {base0 : Nat} {v : Value} {d : DataW H} {p : List MemPlace} (h : DataW.Trod enc Tryz.prog w 0 (fun _ => true) true 52 v d p) (hv : Value.okWide Tryz.prog w .any base0 52 v) (hr : ∀ n ∈ d.weights Tryz.prog 52, decide (n ≤ reachBytes) = true) :
    ∃ zs : List Int, Sl w w.heap.size v (zs.map (Value.int .i64)) ∧ (∀ n ∈ zs, (Lit.int .i64 n).wf = true) ∧ zs.length * 8 ≤ 140737488351232 := open_ints_sl Tryz.underlying52 Tryz.underlying3 (by kernel_rfl) h hv hr
theorem open_u32s {H : Type} {enc : TypeId × Value → H} {w : World} {base0 : Nat} {v : Value} {d : DataW H} {p : List MemPlace} (h : DataW.Trod enc Tryz.prog w 0 (fun _ => true) true 49 v d p) (hv : Value.okWide Tryz.prog w .any base0 49 v) (hr : ∀ n ∈ d.weights Tryz.prog 49, decide (n ≤ reachBytes) = true) :
    ∃ zs : List Int, Sl w w.heap.size v (zs.map (Value.int .u32)) ∧ (∀ n ∈ zs, (Lit.int .u32 n).wf = true) ∧ zs.length * 4 ≤ 140737488351232 := open_ints_sl Tryz.underlying49 Tryz.underlying48 (by kernel_rfl) h hv hr
theorem open_u8s {H : Type} {enc : TypeId × Value → H} {w : World} {base0 : Nat} {v : Value} {d : DataW H} {p : List MemPlace} (h : DataW.Trod enc Tryz.prog w 0 (fun _ => true) true 60 v d p) (hv : Value.okWide Tryz.prog w .any base0 60 v) (hr : ∀ n ∈ d.weights Tryz.prog 60, decide (n ≤ reachBytes) = true) :
    ∃ zs : List Int, Sl w w.heap.size v (zs.map (Value.int .u8)) ∧ (∀ n ∈ zs, (Lit.int .u8 n).wf = true) ∧ zs.length * 1 ≤ 140737488351232 := open_ints_sl Tryz.underlying60 Tryz.underlying5 (by kernel_rfl) h hv hr

/-- Bytes that came in, as bytes. -/
theorem bytes_of_ints {w : World} {B : Nat} {v : Value} {zs : List Int} (h : Sl w B v (zs.map (Value.int .u8))) (hz : ∀ n ∈ zs, (Lit.int .u8 n).wf = true) :
    ∃ bs : List UInt8, Sl w B v (bv bs) ∧ bs.length = zs.length := by
  refine ⟨zs.map fun n => UInt8.ofNat n.toNat, ?_, by simp⟩
  have e : bv (zs.map fun n => UInt8.ofNat n.toNat) = zs.map (Value.int .u8) := by
    simp only [bv, List.map_map]
    refine List.map_congr_left fun n hn => ?_
    have := bounds_u8 (hz n hn)
    simp only [Function.comp, Value.int.injEq, true_and]
    rw [UInt8.toNat_ofNat']
    omega
  rw [e]; exact h
theorem open_bytes {H : Type} {enc : TypeId × Value → H} {w : World} {base0 : Nat} {v : Value} {d : DataW H} {p : List MemPlace} (h : DataW.Trod enc Tryz.prog w 0 (fun _ => true) true 60 v d p) (hv : Value.okWide Tryz.prog w .any base0 60 v) (hr : ∀ n ∈ d.weights Tryz.prog 60, decide (n ≤ reachBytes) = true) :
    ∃ bs : List UInt8, Sl w w.heap.size v (bv bs) ∧ bs.length ≤ 140737488351232 := by
  obtain ⟨zs, h1, h2, h3⟩ := open_u8s h hv hr
  obtain ⟨bs, h4, h5⟩ := bytes_of_ints h1 h2
  exact ⟨bs, h4, by omega⟩
end Go.Proofs.YtenpbpgoglepfaaGreatDoor
