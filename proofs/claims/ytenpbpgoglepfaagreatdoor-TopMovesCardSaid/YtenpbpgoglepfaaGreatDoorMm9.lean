/- Rows of our own: maps.Keys's iterator gives the keys, wherever its box lies; a world that has grown. No condition. -/
import Derived.Test.YtenpbpgoglepfaaGreatDoorMm4
import Derived.Test.YtenpbpgoglepfaaGreatDoorMm8
import Derived.Test.YtenpbpgoglepfaaGreatDoorMm7
import Derived.Test.YtenpbpgoglepfaaGreatDoorProg
import Derived.Shelf.SlMaps.Clone
import Derived.Test.YtenpbpgoglepfaaGreatDoorMm1
import Derived.Test.YtenpbpgoglepfaaGreatDoorMm2
namespace Go.Proofs
open Go.RowKit Go.Maps Go.Sort Go.Shelf
set_option linter.unusedVariables false

namespace YtenpbpgoglepfaaGreatDoor
section
variable {B0 : Nat} {r : Rho} {s : St} {w : World}
/-- Behind a call that made blocks, one of which is known from here on. -/
theorem Sim.grown (h : Sim B0 r s w) {w' : World} (hB : Below w.heap.size w w') {gb t : Nat} {g : GB} (hge : w.heap.size ≤ gb) (ho : OkB B0 (r.push gb 0 t) w' r.n g) :
    Sim B0 (r.push gb 0 t) (.mk (Hp.put s.h s.n g) (Nat.succ s.n)) w' ∧ Stp r s w (r.push gb 0 t) (.mk (Hp.put s.h s.n g) (Nat.succ s.n)) w' := by
  have hle := r.le_push h.lt gb 0 t
  have hlow := h.low
  have hsz := hB.size
  have hold : ∀ b, Hp.get s.h b ≠ .no → r.has b ∧ r.blk b < w.heap.size := fun b hb => (h.ok b).lt hb
  refine ⟨⟨?_, r.lt_push h.lt _ _ _, by omega, fun b => ?_, fun b b' hb hb' e => ?_, h.ety.to (hB.block _ (by have := h.ety.1; omega))⟩, ⟨hle, hB.os, hB.tape, hB.output, hsz, fun x hx _ => hB.block x hx, r.new_push _ _ _, fun b hb => ?_⟩⟩
  · show Nat.succ s.n = r.n + 1; rw [h.n]
  · rw [St.h_mk]
    rcases Hp.get_put s.h s.n g b with e | ⟨rfl, e⟩ | ⟨hn, e⟩
    · rw [e]; trivial
    · rw [e, h.n]; exact ho
    · rw [e]
      by_cases hno : Hp.get s.h b = .no
      · rw [hno]; trivial
      · exact OkB.le (h.ok b) hle (hB.block _ (hold b hno).2)
  · rw [St.h_mk] at hb hb'
    rcases live_put hb with ⟨e1, e2⟩ | ⟨e1, e2⟩ <;> rcases live_put hb' with ⟨k1, k2⟩ | ⟨k1, k2⟩
    · rw [e1, k1]
    · exfalso
      rw [k2] at hb'
      obtain ⟨q1, q2⟩ := hold b' (live_ne hb')
      rw [e1, h.n, (r.push_at _ _ _).1, (hle.same b' q1).2.1] at e
      omega
    · exfalso
      rw [e2] at hb
      obtain ⟨q1, q2⟩ := hold b (live_ne hb)
      rw [k1, h.n, (r.push_at _ _ _).1, (hle.same b q1).2.1] at e
      omega
    · rw [e2] at hb
      rw [k2] at hb'
      rw [(hle.same b (hold b (live_ne hb)).1).2.1, (hle.same b' (hold b' (live_ne hb')).1).2.1] at e
      exact h.inj b b' hb hb' e
  · rw [St.h_mk] at hb
    rcases live_put hb with ⟨e1, e2⟩ | ⟨e1, e2⟩
    · right; rw [e1, h.n, (r.push_at _ _ _).1]; exact hge
    · left
      rw [e2] at hb
      exact ⟨b, hb, by rw [(hle.same b (hold b (live_ne hb)).1).2.1]⟩
end
end YtenpbpgoglepfaaGreatDoor

variable {P : Program} {ρ : Ren}
set_option maxRecDepth 100000 in
set_option maxHeartbeats 1000000 in
/-- The closure of maps.Keys over int keys, its box at whatever cell: the keys come, each once, in some order. -/
theorem YtenpbpgoglepfaaGreatDoor.keys_round (L : SlLaysZI.n10 P ρ) {H : Type} (F : Fence) (n : Nat) (h10 : F.fn (ρ.f 10)) (hro : F.round = none) (hn : 1 ≤ n) (l : Nat) (A : Addr) (b nn : Nat) (D0 : DataW H) {R : Value → Option (DataW H × List MemPlace)} (J : List Int → World → Prop)
    (hY : ∀ pre x W, J pre W → pre.length < Maps.size D0 → YieldAt F (n - 1) P l #[encZ x] W fun e W' => e = .returned (.bool true) ∧ J (pre ++ [x]) W' ∧ KeepsWalks W W')
    (W : World) (hJ : AbidesFrom W.heap.size J) (hm : W.cell? A = some (.map (some b))) (hown : W.ownsMap P (ρ.t 26) R b nn D0) (h0 : J [] W) :
    CallsIn F n P (ρ.f 10) #[.func (.yield l) #[] #[], .pointer (some A)] W fun e W' => (∃ v, e = .returned v) ∧ ∃ ss : List Int, ss.Perm (intKeys D0) ∧ J ss W' := by
  have mixed := L.mixed; have t0 := L.t0; have a0 := L.a0; have z0 := L.z0; have v0 := L.v0; have t4 := L.t4; have a4 := L.a4; have z4 := L.z4; have v4 := L.v4; have t23 := L.t23; have a23 := L.a23; have z23 := L.z23; have v23 := L.v23; have t26 := L.t26; have a26 := L.a26; have z26 := L.z26; have v26 := L.v26; have t33 := L.t33; have a33 := L.a33; have z33 := L.z33; have v33 := L.v33
  have u0 := run_underlying L.t0; have u4 := run_underlying L.t4; have u23 := run_underlying L.t23; have u26 := run_underlying L.t26; have u33 := run_underlying L.t33
  obtain ⟨_, _, FG⟩ := L.f10
  refine callsIn_of_wp FG rfl h10 ?_ hro
  simp only [SlBodyZ.n10_ntmps ρ, List.size_toArray, List.length_cons, List.length_nil, Nat.reduceAdd, Nat.reduceSub, Array.replicate_succ, Array.replicate_zero, List.push_toArray, List.append_toArray, List.nil_append, List.cons_append]
  gi_wp2_with (first
    | (gi_at_range; refine wpListIn_range_own _ rfl _ (ρ.t 23) rfl (ρ.t 26) (ρ.t 3) (int_keyed L.t26) L.t23 _ b nn _ rfl hown ?_; intro w0 hrg0 hg0 hs0)
    | gi_in)
  go_frame
  gi_loopw [3] (fun _ wr => ∃ (left : Lit → Bool) (cnt : Nat) (ss : List Int), wr.ranges P (ρ.t 26) R b W.heap.size nn D0 left cnt ∧ ss.length + cnt ≤ Maps.size D0 ∧ CollectedI D0 left ss ∧ J ss wr)
    (fun _ wr => wr.rangeLeft b W.heap.size)
  case atStart =>
    exact ⟨_, _, [], hrg0, by simp, CollectedI.start D0, hJ [] W w0 none h0 hg0 (fun r e => by cases e)⟩
  case round =>
    obtain ⟨left, cnt, ss, hrg, hcs, hC, hJs⟩ := hrel
    gi_wp2_with (first
      | (gi_at_next; refine wpListIn_next_ranges _ rfl _ rfl (ρ.t 26) (int_keyed L.t26) R encZ id (fun key kl hk => by obtain ⟨x, hx, _⟩ := Maps.keyOf_i64 L.t26 hk; exact ⟨x, hx⟩) (fun v _ _ => ⟨v, rfl⟩) b W.heap.size nn _ _ _ rfl hrg ?_ ?_)
      | gi_in)
    · intro hc0 hl0
      gi_wp2
      go_end0
      exact ⟨⟨_, rfl⟩, ss, hC.perm hown (int_keyed L.t26) L.t26 hl0, hJs⟩
    · intro x c kl yd yp w2 cnt2 hkey hlk hv hat hrg2 hlt hg2 hs2 hen
      obtain ⟨x', ex, rfl, _⟩ := Maps.keyOf_i64 L.t26 hkey
      obtain rfl : x = x' := encZ_inj ex
      have hJ2 : J ss w2 := hJ ss wr w2 (some W.heap.size) hJs hg2 (fun r e => by cases e; exact ⟨Nat.le_refl _, hrg.iter_walk⟩)
      obtain ⟨fn, tmps, assign, body, hy, hR⟩ := hY ss x w2 hJ2 (by omega)
      clear hs2
      gi_wp2
      refine hR.mono ?_
      rintro e W3 ⟨rfl, hJ3, hk3⟩
      gi_wp2
      have hrg3 := hrg2.of_walks hk3
      go_roundw
      case rel => exact ⟨_, cnt2, ss ++ [x], hrg3, by simp; omega, hC.step hlk hat, hJ3⟩
      case measure => rw [hrg3.left_eq, hrg.left_eq]; exact hlt
/-- .. as an iterator that gives them. -/
theorem YtenpbpgoglepfaaGreatDoor.keys_give (L : SlLaysZI.n10 P ρ) {H : Type} (F : Fence) (n : Nat) (h10 : F.fn (ρ.f 10)) (hro : F.round = none) (hn : 1 ≤ n) (A : Addr) (b nn : Nat) (D0 : DataW H) {R : Value → Option (DataW H × List MemPlace)} (w : World) (hA : A.block < w.heap.size)
    (hm : w.cell? A = some (.map (some b))) (hown : w.ownsMap P (ρ.t 26) R b nn D0) :
    SeqGives F n P (ρ.f 10) #[.pointer (some A)] encZ (fun ss => ss.Perm (intKeys D0)) (Maps.size D0) w := fun l J W hW hJ hY h0 => by
  have hown' : W.ownsMap P (ρ.t 26) R b nn D0 := by
    have hbl := hown.lt
    obtain ⟨es, clock, hb, Ft, hs, hD⟩ := hown
    exact ⟨es, clock, (hW.block b hbl).trans hb, Ft, hs, hD⟩
  exact YtenpbpgoglepfaaGreatDoor.keys_round L F n h10 hro hn l A b nn D0 J hY W hJ ((hW.cell (p := A) hA).trans hm) hown' h0
end Go.Proofs
namespace Go.Proofs
open Go.RowKit Go.Maps Go.Sort Go.Shelf
set_option linter.unusedVariables false
theorem YtenpbpgoglepfaaGreatDoor.sorts (m : Nat) : AnyZI.SortsIn Tryz.prog Tryz.sortedA_ren Fence.wide m :=
  ⟨fun blk off cap ss W hH hblk hsz => callsIn_wide.2 (AnyM.slices_Sort_int Tryz.sortA blk off cap ss W hH hblk hsz), fun p cap W => callsIn_wide.2 (AnyM.slices_Sort_int_none Tryz.sortA p cap W)⟩
theorem YtenpbpgoglepfaaGreatDoor.sorted_of {ρ : Ren} (L : SlLaysZI.n10 Tryz.prog ρ) (ht : ρ.t 26 = 3) {H : Type} (A : Addr) (b nn : Nat) (D0 : DataW H) (R : Value → Option (DataW H × List MemPlace)) (w : World) (hA : A.block < w.heap.size) (hm : w.cell? A = some (.map (some b))) (hown : w.ownsMap Tryz.prog 3 R b nn D0) (hmax : Maps.size D0 ≤ 4096)
    (eg : ∀ args w, (callFunc (ρ.f 10) args).run Tryz.prog w = .ok (.enter (ρ.f 10) args) w) (es : ∀ args w, (callFunc 124 args).run Tryz.prog w = .ok (.enter 124 args) w) :
    Calls Tryz.prog 64 #[.func (.func (ρ.f 10)) #[] #[.pointer (some A)]] w fun e w' => ∃ (v : Value) (ss : List Int), e = .returned v ∧ ss.Perm (intKeys D0) ∧ w'.ownsRow w.heap.size 3 1 v ss.length ((ss.mergeSort leI).map encZ) ∧ (v = .slice none 0 0 ↔ ss = []) ∧ Below w.heap.size w w' := by
  refine (callsIn_wide (n := 5)).1 ?_
  have hseq : SeqGives Fence.wide 2 Tryz.prog (ρ.f 10) #[.pointer (some A)] encZ (fun ss => ss.Perm (intKeys D0)) (Maps.size D0) w := YtenpbpgoglepfaaGreatDoor.keys_give L Fence.wide 2 trivial rfl (by omega) A b nn D0 w hA hm (by rw [ht]; exact hown)
  exact AnyZI.sorted_in Tryz.sortedA Fence.wide 5 trivial trivial trivial trivial rfl (by omega) (YtenpbpgoglepfaaGreatDoor.sorts _) es (ρ.f 10) #[.pointer (some A)] trivial eg _ (Maps.size D0) (Nat.le_trans hmax (by decide)) (by omega) w hseq
end Go.Proofs
namespace Go.Proofs.YtenpbpgoglepfaaGreatDoor
open Go.RowKit Go.Maps Go.Shelf Go.WideElems
set_option linter.unusedVariables false

def keysM : AV → Option (List Nat)
  | .nil => some []
  | .cons (.i .i64 (.ofNat k)) (.cons _ l) => if Nat.blt k 4611686018427387904 then (keysM l).map (k :: ·) else none
  | _ => none
def insN (x : Nat) : List Nat → List Nat
  | [] => [x]
  | y :: l => if Nat.ble x y then x :: y :: l else y :: insN x l
def sortN : List Nat → List Nat
  | [] => []
  | x :: l => insN x (sortN l)
def intsL : List Nat → AV
  | [] => .nil
  | x :: l => .cons (.i .i64 (.ofNat x)) (intsL l)
noncomputable def newI (l : List Nat) (s : St) : RC := match l with
  | [] => .ok .ns s
  | _ :: _ => ifB (Nat.ble l.length 4096) (.ok (.s s.n 0 1 l.length l.length false) (.mk (Hp.put s.h s.n (.rw (Cs.putL (intsL l) 0 (Cs.mk l.length)))) (Nat.succ s.n))) .bad
noncomputable def cellAt (s : St) (b o : Nat) : AV := match Hp.get s.h b with | .ro c => Cs.get c o | .rw c => Cs.get c o | _ => .u
noncomputable def mapAt (s : St) (v : AV) : AV := match v with | .m b => (match Hp.get s.h b with | .mp l => l | _ => .u) | _ => .u
noncomputable def prSorted : CallE → AV → St → RC := fun _ ar s => match ar with
  | .cons (.f g .nil (.cons (.p b o) .nil)) .nil => ifB (Nat.beq g 125 || (Nat.beq g 288 || Nat.beq g 296))
    (match keysM (mapAt s (cellAt s b o)) with
      | some ks => ifB (Nat.ble ks.length 4096) (newI (sortN ks) s) .bad
      | none => .bad) .bad
  | _ => .bad
theorem insN_perm (x : Nat) : ∀ l, (insN x l).Perm (x :: l)
  | [] => .refl _
  | y :: l => by
    unfold insN
    split
    · exact .refl _
    · exact ((insN_perm x l).cons y).trans (.swap x y l)
theorem sortN_perm : ∀ l, (sortN l).Perm l
  | [] => .refl _
  | x :: l => (insN_perm x _).trans ((sortN_perm l).cons x)
theorem insN_sorted (x : Nat) : ∀ {l : List Nat}, l.Pairwise (· ≤ ·) → (insN x l).Pairwise (· ≤ ·)
  | [], _ => by simp [insN]
  | y :: l, h => by
    unfold insN
    split
    · rename_i hxy
      have hxy := Nat.le_of_ble_eq_true hxy
      refine List.pairwise_cons.2 ⟨fun z hz => ?_, h⟩
      rcases List.mem_cons.1 hz with rfl | hz
      · exact hxy
      · exact Nat.le_trans hxy ((List.pairwise_cons.1 h).1 z hz)
    · rename_i hxy
      have hyx : y ≤ x := by
        rcases Nat.le_total x y with h' | h'
        · exact absurd (Nat.ble_eq_true_of_le h') hxy
        · exact h'
      obtain ⟨h1, h2⟩ := List.pairwise_cons.1 h
      refine List.pairwise_cons.2 ⟨fun z hz => ?_, insN_sorted x h2⟩
      rcases List.mem_cons.1 ((insN_perm x l).mem_iff.1 hz) with rfl | hz
      · exact hyx
      · exact h1 z hz
theorem sortN_sorted : ∀ l, (sortN l).Pairwise (· ≤ ·)
  | [] => List.Pairwise.nil
  | x :: l => insN_sorted x (sortN_sorted l)
theorem sort_eq {ss : List Int} {ks : List Nat} (h : ss.Perm (ks.map fun n : Nat => (n : Int))) : ss.mergeSort leI = (sortN ks).map fun n : Nat => (n : Int) := by
  have tr : ∀ a b c : Int, leI a b = true → leI b c = true → leI a c = true := fun a b c h1 h2 => by simp only [leI, decide_eq_true_eq] at *; exact Int.le_trans h1 h2
  have to : ∀ a b : Int, (leI a b || leI b a) = true := fun a b => by simp only [leI, Bool.or_eq_true, decide_eq_true_eq]; exact Int.le_total a b
  refine List.Perm.eq_of_pairwise (le := fun a b => leI a b = true) (fun a b _ _ h1 h2 => ?_) (List.pairwise_mergeSort tr to ss) ?_ ((List.mergeSort_perm ss leI).trans (h.trans ((sortN_perm ks).map _).symm))
  · simp only [leI, decide_eq_true_eq] at h1 h2
    exact Int.le_antisymm h1 h2
  · refine List.Pairwise.map _ (fun a b hab => ?_) (sortN_sorted ks)
    simp only [leI, decide_eq_true_eq]
    omega
theorem keysM_rel {r : Rho} : ∀ {es : List MapEntry} {l : AV} {ks : List Nat}, keysM l = some ks → RelM r l es → es.map (·.key) = ks.map (fun n : Nat => Value.int .i64 (n : Int)) ∧ ∀ n ∈ ks, n < 4611686018427387904 := by
  intro es
  induction es with
  | nil =>
    intro l ks h k
    unfold RelM at k
    cases l <;> simp only [RelL, List.flatMap_nil, reduceCtorEq, false_and, exists_const] at k
    simp only [keysM, Option.some.injEq] at h
    subst h
    exact ⟨rfl, by simp⟩
  | cons e es ih =>
    intro l ks h k
    unfold RelM at k
    rw [List.flatMap_cons] at k
    cases l <;> simp only [RelL, List.cons_append, List.nil_append, reduceCtorEq] at k
    rename_i a t
    obtain ⟨v, vs, e1, k1, k2⟩ := k
    obtain ⟨rfl, rfl⟩ := List.cons.inj e1
    cases t <;> simp only [RelL, reduceCtorEq] at k2
    rename_i b t
    obtain ⟨v2, vs2, e2, k3, k4⟩ := k2
    obtain ⟨rfl, rfl⟩ := List.cons.inj e2
    unfold keysM at h
    split at h
    · rename_i e'; cases e'
    · rename_i k0 x0 l0 e'
      cases e'
      split at h
      · rename_i hlt
        obtain ⟨ks', h', rfl⟩ := Option.map_eq_some_iff.1 h
        obtain ⟨q1, q2⟩ := ih h' k4
        simp only [Rel] at k1
        refine ⟨by rw [List.map_cons, List.map_cons, q1, k1]; rfl, fun n hn => ?_⟩
        rcases List.mem_cons.1 hn with rfl | hn
        · exact blt_lt hlt
        · exact q2 n hn
      · cases h
    · cases h
theorem key_reads {n : Nat} (h : n < 4611686018427387904) : keyOf Tryz.prog 3 (.int .i64 (n : Int)) = some (.int .i64 (n : Int)) := by
  have hu : Tryz.prog.underlying 3 = some (.int .i64) := Tryz.underlying3
  have hw : (Lit.int .i64 (n : Int)).wf = true := by
    simp only [Lit.wf, Bool.and_eq_true, decide_eq_true_eq]
    constructor
    · refine Int.le_trans (b := 0) (by decide) (by omega)
    · refine Int.le_trans (b := 4611686018427387904) (by omega) (by decide)
  simp [keyOf, hu, mapKey, hw]
/-- How the row reads the elements: not at all. -/
def blindR : Value → Option (DataW Unit × List MemPlace) := fun _ => some (.lit (.bool true), [])
theorem own_of {w : World} {b cl : Nat} {es : Array MapEntry} {ks : List Nat} (hm : w.heap[b]? = some (.map es cl)) (hst : MapKept.Stamped es cl) (hk : es.toList.map (·.key) = ks.map (fun n : Nat => Value.int .i64 (n : Int))) (hlt : ∀ n ∈ ks, n < 4611686018427387904) (hlen : ks.length ≤ 4096) :
    ∃ D0 : DataW Unit, w.ownsMap Tryz.prog 3 blindR b 4096 D0 ∧ Maps.size D0 ≤ 4096 ∧ (intKeys D0).Perm (ks.map fun n : Nat => (n : Int)) := by
  have hes : es.size = ks.length := by
    have := congrArg List.length hk
    simpa using this
  have hread : ∀ x ∈ es.toList, ∃ n : Nat, x.key = .int .i64 (n : Int) ∧ n < 4611686018427387904 := fun x hx => by
    have : x.key ∈ ks.map (fun n : Nat => Value.int .i64 (n : Int)) := by rw [← hk]; exact List.mem_map_of_mem hx
    obtain ⟨n, hn, e⟩ := List.mem_map.1 this
    exact ⟨n, e.symm, hlt n hn⟩
  have hrd : ∀ x ∈ es.toList, ∀ n : Nat, x.key = .int .i64 (n : Int) → n < 4611686018427387904 → rd Tryz.prog 3 blindR x = some (.int .i64 (n : Int), .lit (.bool true)) := fun x hx n e hn => by
    cases x with
    | mk key val born =>
      have e : key = .int .i64 (n : Int) := e
      subst e
      exact rd_mk (R := blindR) (yv := (.lit (.bool true), [])) (key_reads hn) rfl
  refine ⟨.map ((es.toList.map (rg Tryz.prog 3 blindR)).foldr DataW.insert []), ⟨es, cl, hm, ⟨Nat.le_trans (by omega : es.size ≤ 4096) (by decide), hst, fun x hx => ?_⟩, by omega, rfl⟩, ?_, ?_⟩
  · obtain ⟨n, e, hn⟩ := hread x hx
    exact ⟨_, hrd x hx n e hn⟩
  · show ((es.toList.map (rg Tryz.prog 3 blindR)).foldr DataW.insert []).length ≤ 4096
    rw [(WideShapes.sorted_perm _).length_eq, List.length_map, Array.length_toList]
    omega
  · show (((es.toList.map (rg Tryz.prog 3 blindR)).foldr DataW.insert []).map fun p => Go.intOf p.1).Perm _
    refine ((WideShapes.sorted_perm _).map _).trans (.of_eq ?_)
    rw [List.map_map]
    have e : ks.map (fun n : Nat => (n : Int)) = es.toList.map fun x => (match x.key with | .int _ n => n | _ => 0) := by
      have := congrArg (List.map fun v : Value => (match v with | .int _ n => n | _ => 0)) hk
      rw [List.map_map, List.map_map] at this
      exact this.symm
    rw [e]
    refine List.map_congr_left fun x hx => ?_
    obtain ⟨n, e, hn⟩ := hread x hx
    simp only [Function.comp_apply, rg_of (hrd x hx n e hn), e, Go.intOf]
end Go.Proofs.YtenpbpgoglepfaaGreatDoor
namespace Go.Proofs.YtenpbpgoglepfaaGreatDoor
open Go.RowKit Go.Maps Go.Shelf Go.WideElems
set_option linter.unusedVariables false

theorem cellAt_ok {B0 : Nat} {r : Rho} {s : St} {w : World} (hs : Sim B0 r s w) {b o : Nat} {v : AV} (h : cellAt s b o = v) (hv : v ≠ .u) : r.has b ∧ r.blk b < w.heap.size ∧ ∃ x, w.cell? ⟨r.blk b, r.off b + o, none⟩ = some x ∧ Rel r v x := by
  unfold cellAt at h
  have key : ∀ c, (Hp.get s.h b = .ro c ∨ Hp.get s.h b = .rw c) → Cs.get c o = v → r.has b ∧ r.blk b < w.heap.size ∧ ∃ x, w.cell? ⟨r.blk b, r.off b + o, none⟩ = some x ∧ Rel r v x := fun c hc e => by
    obtain ⟨h0, cs, t, f, hh, _, hcs, _⟩ := row_of hs hc
    obtain ⟨x, h1, h2⟩ := hcs o (by rw [e]; exact hv)
    exact ⟨h0, (Array.getElem?_eq_some_iff.1 hh).1, x, by rw [cell_at hh]; exact h1, by rw [← e]; exact h2⟩
  split at h
  · rename_i c e; exact key c (.inl e) h
  · rename_i c e; exact key c (.inr e) h
  · exact absurd h.symm hv
theorem intsL_rel {r : Rho} : ∀ (l : List Nat), RelL r (intsL l) (l.map fun n : Nat => Value.int .i64 (n : Int))
  | [] => rfl
  | x :: l => ⟨_, _, rfl, rfl, intsL_rel l⟩
theorem newI_ok {B0 : Nat} {r : Rho} {s s' : St} {w w' : World} {l : List Nat} {v : AV} {x : Value} (hs : Sim B0 r s w) (h : newI l s = .ok v s') (hB : Below w.heap.size w w') (hrow : w'.ownsRow w.heap.size 3 1 x l.length (l.map fun n : Nat => Value.int .i64 (n : Int))) (hnil : x = .slice none 0 0 ↔ l = []) :
    ∃ r', Rel r' v x ∧ Sim B0 r' s' w' ∧ Stp r s w r' s' w' := by
  cases l with
  | nil =>
    cases h
    obtain ⟨h1, h2⟩ := hs.more hB
    exact ⟨r, hnil.2 rfl, h1, h2⟩
  | cons a l =>
    have h : ifB (Nat.ble (a :: l).length 4096) (.ok (.s s.n 0 1 (a :: l).length (a :: l).length false) (.mk (Hp.put s.h s.n (.rw (Cs.putL (intsL (a :: l)) 0 (Cs.mk (a :: l).length)))) (Nat.succ s.n))) .bad = RC.ok v s' := h
    generalize hL : a :: l = L at *
    rcases hle : Nat.ble L.length 4096 with _ | _
    · rw [hle] at h; cases h
    rw [hle] at h
    cases h
    obtain ⟨_, hrow⟩ := hrow
    rcases hrow with ⟨rfl, _⟩ | ⟨g, cap, cur, rfl, hge, hg, h1, h2, h3, h4⟩
    · have := hnil.1 rfl
      rw [this] at hL
      cases hL
    have hlow := hs.low
    obtain ⟨p1, p2, p3⟩ := r.push_at g 0 cap
    have hcells : Cells (r.push g 0 cap) (Cs.putL (intsL L) 0 (Cs.mk L.length)) 0 cur := by
      refine Cells.putL (cs := cur) Cells.mk (intsL_rel L) (fun j hj => ?_) fun _ _ => rfl
      rw [Nat.zero_add, ← h4, Nat.mul_one, List.getElem?_take]
      rw [List.length_map] at hj
      rw [if_pos hj, Array.getElem?_toList]
    obtain ⟨k1, k2⟩ := hs.grown hB hge (t := cap) (g := .rw (Cs.putL (intsL L) 0 (Cs.mk L.length))) ⟨⟨r.push_n _ _ _, cur, _, _, by rw [p1]; exact hg, by rw [p3, h3, Nat.mul_one], by rw [p2]; exact hcells, .inl rfl⟩, by rw [p1]; omega⟩
    refine ⟨_, ?_, k1, k2⟩
    show Rel _ (.s s.n 0 1 L.length L.length false) _
    rw [hs.n]
    exact ⟨r.push_n _ _ _, 0, cap, by rw [p1], fun _ => (by rw [p2]), h1, (fun h => by cases h), Nat.le_refl _, (by rw [p3]; omega)⟩
theorem prSorted_ok {NG : Env} {B0 : Nat} : FnOk Tryz.prog NG B0 64 (.pr prSorted) := fun ih hih ar s v s' hrun r w args hb hs hr => by
  have hent : ∀ args w, (callFunc 64 args).run Tryz.prog w = .ok (.enter 64 args) w := ent_of Tryz.func64 (by kernel_rfl) rfl
  have hsrt : ∀ args w, (callFunc 124 args).run Tryz.prog w = .ok (.enter 124 args) w := ent_of Tryz.func124 (by kernel_rfl) rfl
  replace hrun : prSorted ih ar s = .ok v s' := hrun
  unfold prSorted at hrun
  split at hrun
  case h_2 => cases hrun
  rename_i g b o
  rcases hg : (Nat.beq g 125 || (Nat.beq g 288 || Nat.beq g 296)) with _ | _
  · rw [hg] at hrun; cases hrun
  rw [hg, ifB_true] at hrun
  split at hrun
  case h_2 => cases hrun
  rename_i ks hks
  rcases hlen : Nat.ble ks.length 4096 with _ | _
  · rw [hlen] at hrun; cases hrun
  rw [hlen, ifB_true] at hrun
  have hlen := Nat.le_of_ble_eq_true hlen
  obtain ⟨u, rfl, h1⟩ := args_one hr
  simp only [Rel, RelL] at h1
  obtain ⟨a, c, rfl, ha, x, _, hc, ⟨hbh, rfl⟩, rfl⟩ := h1
  obtain rfl : a = #[] := Array.toList_inj.1 ha
  obtain rfl : c = #[.pointer (some ⟨r.blk b, r.off b + o, none⟩)] := Array.toList_inj.1 hc
  -- the map
  obtain ⟨mb, l, hcell, hl, hks⟩ : ∃ mb l, cellAt s b o = .m mb ∧ Hp.get s.h mb = .mp l ∧ keysM l = some ks := by
    unfold mapAt at hks
    split at hks
    · rename_i mb e
      split at hks
      · rename_i l e2; exact ⟨mb, l, e, e2, hks⟩
      · cases hks
    · cases hks
  obtain ⟨_, hA, x, hx, hxr⟩ := cellAt_ok hs hcell (by simp)
  obtain ⟨_, rfl⟩ := hxr
  have hok := hs.ok mb
  rw [hl] at hok
  obtain ⟨_, _, es, cl, hm, hrel, hst⟩ := hok
  obtain ⟨q1, q2⟩ := keysM_rel hks hrel
  obtain ⟨D0, hown, hsz, hperm⟩ := own_of hm hst q1 q2 hlen
  have fin : ∀ {e : Ending} {w' : World}, (∃ (v : Value) (ss : List Int), e = .returned v ∧ ss.Perm (intKeys D0) ∧ w'.ownsRow w.heap.size 3 1 v ss.length ((ss.mergeSort leI).map encZ) ∧ (v = .slice none 0 0 ↔ ss = []) ∧ Below w.heap.size w w') → ∃ x, e = .returned x ∧ ∃ r', Rel r' v x ∧ Sim B0 r' s' w' ∧ Stp r s w r' s' w' := fun {e w'} h => by
    obtain ⟨x, ss, rfl, hp, hrow, hnil, hB⟩ := h
    have hp' := hp.trans hperm
    have hlen' : ss.length = (sortN ks).length := by
      rw [hp'.length_eq, List.length_map, (sortN_perm ks).length_eq]
    rw [sort_eq hp', List.map_map, hlen'] at hrow
    refine ⟨_, rfl, newI_ok hs hrun hB hrow (hnil.trans ?_)⟩
    rw [← List.length_eq_zero_iff, ← List.length_eq_zero_iff, hlen']
  simp only [Bool.or_eq_true] at hg
  refine .inl ⟨hent _ _, ?_⟩
  rcases hg with hg | hg | hg
  · obtain rfl := Nat.eq_of_beq_eq_true hg
    exact (sorted_of Tryz.keysC rfl _ _ _ D0 blindR w hA hx hown hsz (ent_of Tryz.func125 (by kernel_rfl) rfl) hsrt).mono fun e w' h => fin h
  · obtain rfl := Nat.eq_of_beq_eq_true hg
    exact (sorted_of Tryz.keysB rfl _ _ _ D0 blindR w hA hx hown hsz (ent_of Tryz.func288 (by kernel_rfl) rfl) hsrt).mono fun e w' h => fin h
  · obtain rfl := Nat.eq_of_beq_eq_true hg
    exact (sorted_of Tryz.keysA rfl _ _ _ D0 blindR w hA hx hown hsz (ent_of Tryz.func296 (by kernel_rfl) rfl) hsrt).mono fun e w' h => fin h
end Go.Proofs.YtenpbpgoglepfaaGreatDoor
namespace Go.Proofs
open Go.RowKit Go.Maps Go.Shelf
def Tryz.clone_ren : Go.Shelf.Ren := ⟨fun | 5 => 219 | 7 => 287 | n => n, fun | 4 => 4 | 20 => 20 | 23 => 230 | 25 => 3 | 3 => 4 | n => n, fun | n => n⟩
theorem Tryz.cloneA : Go.Proofs.SlLaysW.n5 Tryz.prog Tryz.clone_ren where
  mixed := by kernel_rfl
  f5 := ⟨ "maps.Clone[map[int]bool,int,bool]", by decide, Tryz.func219.trans (congrArg some (by kernel_rfl))⟩
  f7 := Tryz.func287.trans (congrArg some (by kernel_rfl))
  t4 := Tryz.underlying4
  a4 := Tryz.isAgg4
  z4 := Tryz.sizeOf4
  v4 := Tryz.zeroValue4
  t20 := Tryz.underlying20
  a20 := Tryz.isAgg20
  z20 := Tryz.sizeOf20
  v20 := Tryz.zeroValue20
  t23 := Tryz.underlying230
  a23 := Tryz.isAgg230
  z23 := Tryz.sizeOf230
  v23 := Tryz.zeroValue230
namespace YtenpbpgoglepfaaGreatDoor
set_option linter.unusedVariables false
/-- maps.Clone. -/
noncomputable def prClone : CallE → AV → St → RC := fun _ ar s => match ar with
  | .cons (.m b) .nil => (match Hp.get s.h b with | .mp l => .ok (.m s.n) (.mk (Hp.put s.h s.n (.mp l)) (Nat.succ s.n)) | _ => .bad)
  | .cons .nm .nil => .ok .nm s
  | _ => .bad
theorem prClone_ok {NG : Env} {B0 : Nat} : FnOk Tryz.prog NG B0 219 (.pr prClone) := fun ih hih ar s v s' hrun r w args hb hs hr => by
  have hent : ∀ args w, (callFunc 219 args).run Tryz.prog w = .ok (.enter 219 args) w := ent_of Tryz.func219 (by kernel_rfl) rfl
  replace hrun : prClone ih ar s = .ok v s' := hrun
  unfold prClone at hrun
  split at hrun
  · rename_i b
    split at hrun
    case h_2 => cases hrun
    rename_i l hl
    cases hrun
    obtain ⟨u, rfl, h0, rfl⟩ := args_one hr
    have hok := hs.ok b
    rw [hl] at hok
    obtain ⟨_, _, es, cl, hm, hrel, hst⟩ := hok
    have hlow := hs.low
    have hle := r.le_push hs.lt w.heap.size 0 0
    obtain ⟨p1, p2, p3⟩ := r.push_at w.heap.size 0 0
    obtain ⟨k1, k2⟩ := hs.new (.map es cl) (.mp l) 0 ⟨r.push_n _ _ _, by rw [p1]; exact hlow, es, cl, by rw [p1]; exact heap_alloc_new w _, RelL.le hrel hle, hst⟩
    refine .inl ⟨hent _ _, (AnyW.maps_Clone Tryz.cloneA (r.blk b) es cl w hm).mono fun e w' ⟨he, hw⟩ => ⟨_, he, _, ?_, hw ▸ k1, hw ▸ k2⟩⟩
    show Rel _ (.m s.n) _
    rw [hs.n]
    exact ⟨r.push_n _ _ _, by rw [p1]⟩
  · cases hrun
    obtain ⟨u, rfl, h0⟩ := args_one hr
    simp only [Rel] at h0
    subst h0
    exact .inl ⟨hent _ _, (AnyW.maps_Clone_nil Tryz.cloneA w).mono fun e w' ⟨he, hw⟩ => ⟨_, he, r, rfl, hw ▸ hs, hw ▸ .refl r s w⟩⟩
  · cases hrun
end YtenpbpgoglepfaaGreatDoor
end Go.Proofs
namespace Go.Proofs.YtenpbpgoglepfaaGreatDoor
open Go.RowKit
noncomputable def t0 : F (F Fn) := (.mk (.mk .no .no .no .no .no xf5 .no xf7 .no xf9 xf10 xf11 xf12 xf13 xf14 xf15) (.mk xf16 xf17 xf18 xf19 xf20 xf21 xf22 xf23 .no xf25 xf26 xf27 xf28 xf29 xf30 .no) (.mk xf32 xf33 xf34 xf35 xf36 xf37 xf38 xf39 xf40 xf41 xf42 xf43 xf44 xf45 xf46 xf47) (.mk xf48 xf49 xf50 .no .no .no .no .no xf56 xf57 .no .no xf60 xf61 .no xf63) (.mk (.pr prSorted) xf65 xf66 xf67 xf68 xf69 xf70 xf71 xf72 xf73 xf74 xf75 xf76 xf77 xf78 xf79) (.mk xf80 xf81 .no .no .no xf85 xf86 xf87 xf88 xf89 xf90 .no xf92 xf93 .no xf95) (.mk xf96 xf97 xf98 xf99 .no .no .no .no .no xf105 xf106 xf107 .no xf109 .no xf111) (.mk xf112 xf113 (.pr prIs) .no .no .no .no .no .no xf121 xf122 .no xf124 .no .no xf127) (.mk xf128 xf129 xf130 xf131 xf132 xf133 xf134 xf135 xf136 xf137 xf138 xf139 xf140 xf141 .no xf143) (.mk xf144 xf145 .no .no .no .no xf150 xf151 xf152 xf153 xf154 xf155 xf156 xf157 xf158 xf159) (.mk .no xf161 xf162 xf163 xf164 xf165 xf166 xf167 xf168 xf169 xf170 xf171 xf172 xf173 .no xf175) (.mk .no .no xf178 xf179 xf180 .no .no xf183 .no xf185 xf186 xf187 xf188 xf189 xf190 xf191) (.mk xf192 xf193 xf194 xf195 .no xf197 xf198 xf199 xf200 xf201 xf202 xf203 xf204 xf205 xf206 xf207) (.mk xf208 xf209 xf210 .no .no xf213 .no xf215 xf216 xf217 xf218 (.pr prClone) xf220 xf221 xf222 .no) (.mk .no .no .no xf227 xf228 xf229 xf230 xf231 xf232 xf233 xf234 xf235 .no xf237 xf238 xf239) (.mk xf240 xf241 .no xf243 .no .no .no .no .no xf249 .no .no .no xf253 xf254 xf255))
noncomputable def t1 : F (F Fn) := (.mk (.mk xf256 xf257 xf258 .no xf260 .no xf262 xf263 .no xf265 xf266 xf267 xf268 .no .no .no) (.mk xf272 .no .no .no xf276 xf277 .no xf279 .no xf281 xf282 xf283 .no xf285 xf286 .no) (.mk .no .no .no xf291 xf292 xf293 .no .no .no xf297 xf298 xf299 .no .no .no .no) (.mk .no .no .no .no xf308 xf309 xf310 xf311 xf312 xf313 xf314 .no .no .no .no xf319) (.mk xf320 .no .no .no xf324 xf325 xf326 .no .no xf329 .no xf331 xf332 xf333 xf334 .no) (.mk .no xf337 xf338 xf339 xf340 xf341 xf342 xf343 .no .no .no .no .no .no xf350 xf351) (.mk (.pr prIdx) xf353 xf354 xf355 .no .no .no .no .no xf361 .no .no .no .no .no .no) (F.all .no) (F.all .no) (F.all .no) (F.all .no) (F.all .no) (F.all .no) (F.all .no) (F.all .no) (F.all .no))
noncomputable def e2 : F (F Fn) := (F.all (F.all .no))
noncomputable def fnTab : F (F (F Fn)) := (.mk t0 t1 e2 e2 e2 e2 e2 e2 e2 e2 e2 e2 e2 e2 e2 e2)
noncomputable def tabF (n : Nat) : Fn := ifB (Nat.blt n 512) (F.at3 fnTab n) .no
end Go.Proofs.YtenpbpgoglepfaaGreatDoor
namespace Go.Proofs.YtenpbpgoglepfaaGreatDoor
open Go.RowKit
set_option linter.unusedVariables false

section
variable {P : Program} {NG : Env} {B0 N : Nat} {ro : Option Nat} {mt : Mt} {ops : Array Oper} {L : List DI} {c : CallE} {Fm : Nat → Fr} {S : Nat → St} {n0 : Nat}
/-- What the heap holds when so much is done: the state behind the acts that are done, and the blocks that are made. -/
structure HpI (L : List DI) (S : Nat → St) (n0 : Nat) (listed : Array Bool) (q : Nat) (U : St) : Prop where
  n : U.n = (S q).n
  out : ∀ b, (∀ j, Flo L j → b ≠ n0 + j) → Hp.get U.h b = Hp.get (S q).h b
  has : ∀ j, Flo L j → listed.getD j false = true → Hp.get U.h (n0 + j) = if j < q then Hp.get (S q).h (n0 + j) else Hp.get (S (j + 1)).h (n0 + j)
  not : ∀ j, Flo L j → listed.getD j false ≠ true → Hp.get U.h (n0 + j) = .no
/-- What holds when so much is done. -/
structure DfI (B0 N : Nat) (L : List DI) (Fm : Nat → Fr) (S : Nat → St) (n0 : Nat) (r0 : Rho) (s0 : St) (w0 : World) (df : List Deferred) (listed : Array Bool) (a : Act) (w : World) (q : Nat) (r : Rho) (U : St) : Prop where
  size : listed.size = L.length
  hq : q ≤ L.length
  acts : ∀ (j : Nat) (x : DI), L[j]? = some x → x.kd = .act → (listed.getD j false = true ↔ j < q)
  hp : HpI L S n0 listed q U
  fresh : ∀ j, Flo L j → listed.getD j false ≠ true → ¬ r.has (n0 + j)
  hn : n0 + L.length ≤ r.n
  sim : Sim B0 r U w
  stp : Stp r0 s0 w0 r U w
  clos : ∀ (j : Nat) (x : DI), L[j]? = some x → listed.getD j false = true → ∀ e, bitN x.ms e = true → listed.getD e false = true
  tsz : a.tmps.size = N
  dfr : a.defers = df
  far : ∀ h l v, (∀ (j : Nat) (x : DI), L[j]? = some x → x.ds = .to h l → listed.getD j false ≠ true) → a.tmps[slotN h l]? = some v → Rel r (F.get l (F.get h (Fm 0))) v
  near : ∀ (j : Nat) (x : DI) h l v, L[j]? = some x → x.ds = .to h l → listed.getD j false = true → a.tmps[slotN h l]? = some v → Rel r (D.get x.ds (Fm (j + 1))) v
open Classical in
theorem HpI.mk' (L : List DI) (S : Nat → St) (n0 : Nat) (hnn : n0 + L.length < 65536) (listed : Array Bool) (q : Nat) : ∃ U, HpI L S n0 listed q U := by
  obtain ⟨h', hh⟩ := Hp.over (fun b => if Flo L (b - n0) then some (if listed.getD (b - n0) false = true then (if b - n0 < q then Hp.get (S q).h b else Hp.get (S (b - n0 + 1)).h b) else .no) else none) n0 L.length (S q).h (by omega)
  have hlt : ∀ {j}, Flo L j → j < L.length := fun ⟨x, hx, _⟩ => (List.getElem?_eq_some_iff.1 hx).1
  refine ⟨.mk h' (S q).n, rfl, fun b hb => ?_, fun j hj hl => ?_, fun j hj hl => ?_⟩
  · rw [St.h_mk, hh]
    split
    · rename_i hin
      rw [if_neg (fun hf => hb _ hf (by omega))]
      rfl
    · rfl
  · have := hlt hj
    rw [St.h_mk, hh, if_pos (by omega), Nat.add_sub_cancel_left, if_pos hj, if_pos hl]
    rfl
  · have := hlt hj
    rw [St.h_mk, hh, if_pos (by omega), Nat.add_sub_cancel_left, if_pos hj, if_neg hl]
    rfl
/-- Two places with the same acts ahead: the same blocks, but for those that are made in between. -/
theorem TrF.same (hnn : n0 + L.length < 65536) (ht : TrF c (flsOf L n0) n0 L L.length Fm S) {a b : Nat} (ha : a ≤ L.length) (hb : b ≤ L.length) (h : ∀ (j : Nat) (q : DI), L[j]? = some q → q.kd = .act → (j < a ↔ j < b)) :
    (S a).n = (S b).n ∧ ∀ x, (∀ j, Flo L j → x = n0 + j → (j < a ↔ j < b)) → Hp.get (S a).h x = Hp.get (S b).h x := by
  rcases Nat.le_total a b with e | e
  · obtain ⟨h1, h2⟩ := ht.const hnn e hb fun j q g1 g2 hq hk => by have := h j q hq hk; omega
    exact ⟨h1.symm, fun x hx => (h2 x fun j g1 g2 hj e => by have := hx j hj e; omega).symm⟩
  · obtain ⟨h1, h2⟩ := ht.const hnn e ha fun j q g1 g2 hq hk => by have := h j q hq hk; omega
    exact ⟨h1, fun x hx => h2 x fun j g1 g2 hj e => by have := hx j hj e; omega⟩
/-- A block behind its operation, no act in between. -/
theorem TrF.made (hnn : n0 + L.length < 65536) (ht : TrF c (flsOf L n0) n0 L L.length Fm S) {j b : Nat} (hj : Flo L j) (hjb : j < b) (hb : b ≤ L.length) (h : ∀ (e : Nat) (p : DI), j < e → e < b → L[e]? = some p → p.kd ≠ .act) : Hp.get (S b).h (n0 + j) = Hp.get (S (j + 1)).h (n0 + j) :=
  ht.keep hnn hj hjb hb fun e p h1 h2 h3 h4 => absurd h4 (h e p h1 h2 h3)
/-- What an operation sees, in the run in the order of the text, is there. -/
theorem view_sub (hnn : n0 + L.length < 65536) (h : DfK P NG N mt ops L) (ht : TrF c (flsOf L n0) n0 L L.length Fm S) (h0 : ∀ j, Flo L j → Hp.get (S 0).h (n0 + j) = .no) {listed : Array Bool} {q : Nat} {U : St} (hq : q ≤ L.length) (hU : HpI L S n0 listed q U) {m x : Nat} (hx : x ≤ L.length)
    (hm : ∀ e, bitN m e = true → listed.getD e false = true) (hsame : ∀ (j : Nat) (p : DI), L[j]? = some p → p.kd = .act → (j < x ↔ j < q)) :
    (hide (flsOf L n0) m (S x)).n = U.n ∧ ∀ b, Hp.get (hide (flsOf L n0) m (S x)).h b = .no ∨ Hp.get (hide (flsOf L n0) m (S x)).h b = Hp.get U.h b := by
  obtain ⟨g1, g2⟩ := ht.same hnn hx hq hsame
  refine ⟨by rw [hU.n]; exact g1, fun b => ?_⟩
  show Hp.get (hideH (flsOf L n0) m (S x).h) b = _ ∨ Hp.get (hideH (flsOf L n0) m (S x).h) b = _
  rw [hideH_get (fls_lt hnn)]
  split
  · exact .inl rfl
  · rename_i hnh
    by_cases hf : ∃ j, Flo L j ∧ b = n0 + j
    · obtain ⟨j, hj, rfl⟩ := hf
      have hbit : bitN m j = true := by
        cases hb : bitN m j
        · exact absurd (hid_iff.2 ⟨j, hj, rfl, hb⟩) hnh
        · rfl
      by_cases hjx : j < x
      · right
        rw [hU.has j hj (hm j hbit)]
        split
        · rename_i hjq
          exact g2 _ fun i hi e => by obtain rfl : i = j := by omega
                                      exact ⟨fun _ => hjq, fun _ => hjx⟩
        · rename_i hjq
          exact ht.made hnn hj hjx hx fun e p h1 h2 h3 h4 => by have := (hsame e p h3 h4).1 h2; omega
      · exact .inl (ht.none hnn h h0 hj (by omega) hx)
    · right
      rw [hU.out b (fun j hj e => hf ⟨j, hj, e⟩)]
      exact g2 b fun j hj e => absurd ⟨j, hj, e⟩ hf
theorem HpI.more {listed : Array Bool} {i q : Nat} {U : St} (h : HpI L S n0 listed q U) (hi : i < listed.size) (hnf : ¬ Flo L i) : HpI L S n0 (listed.setIfInBounds i true) q U :=
  ⟨h.n, h.out, fun j hj hl => h.has j hj ((getD_set hi).1 hl |>.resolve_left fun e => hnf (e ▸ hj)), fun j hj hl => h.not j hj fun hl' => hl ((getD_set hi).2 (.inr hl'))⟩
end
end Go.Proofs.YtenpbpgoglepfaaGreatDoor
namespace Go.Proofs.YtenpbpgoglepfaaGreatDoor
open Go.RowKit
set_option linter.unusedVariables false

section
variable {P : Program} {NG : Env} {B0 N : Nat} {ro : Option Nat} {mt : Mt} {ops : Array Oper} {L : List DI} {c : CallE} {Fm : Nat → Fr} {S : Nat → St} {n0 : Nat} {r0 : Rho} {s0 : St} {w0 : World} {df : List Deferred}
/-- The slots behind an operation. -/
theorem df_slots {listed : Array Bool} {a a' : Act} {w : World} {q : Nat} {r r' : Rho} {U : St} (h : DfK P NG N mt ops L) (hI : DfI B0 N L Fm S n0 r0 s0 w0 df listed a w q r U) {i : Nat} {o : Oper} {x : DI} (ho : ops[i]? = some o) (hx : L[i]? = some x) (hsz : i < listed.size) {v : Value} (hv : a'.tmps = (a.put o.dst v).tmps) (hle : r.Le r')
    (hval : ∀ p l u, x.ds = .to p l → a'.tmps[slotN p l]? = some u → Rel r' (D.get x.ds (Fm (i + 1))) u) :
    (∀ p l u, (∀ (j : Nat) (y : DI), L[j]? = some y → y.ds = .to p l → (listed.setIfInBounds i true).getD j false ≠ true) → a'.tmps[slotN p l]? = some u → Rel r' (F.get l (F.get p (Fm 0))) u) ∧
    (∀ (j : Nat) (y : DI) p l u, L[j]? = some y → y.ds = .to p l → (listed.setIfInBounds i true).getD j false = true → a'.tmps[slotN p l]? = some u → Rel r' (D.get y.ds (Fm (j + 1))) u) := by
  obtain ⟨_, hdB, _⟩ := h.snd i o x ho hx
  have hstay : ∀ p l, x.ds ≠ .to p l → a'.tmps[slotN p l]? = a.tmps[slotN p l]? := fun p l hne => by
    rw [hv, put_get', if_neg]
    intro hod
    rw [hod] at hdB
    cases hxd : x.ds with
    | no => rw [hxd] at hdB; cases hdB
    | to p' l' =>
      rw [hxd] at hdB hne
      simp only [dB, beq_iff_eq] at hdB
      obtain ⟨rfl, rfl⟩ := slotN_inj hdB
      exact hne rfl
  refine ⟨fun p l u hno hu => ?_, fun j y p l u hy hyd hl hu => ?_⟩
  · rw [hstay p l (fun e => hno i x hx e ((getD_set hsz).2 (.inl rfl)))] at hu
    exact (hI.far p l u (fun j y hy hyd hl => hno j y hy hyd ((getD_set hsz).2 (.inr hl))) hu).le hle
  · by_cases e : j = i
    · subst e
      rw [hx] at hy; cases hy
      exact hval p l u hyd hu
    · rw [getD_set hsz] at hl
      have hl := hl.resolve_left e
      rw [hstay p l (h.dst j i y x hy hx e p l hyd)] at hu
      exact (hI.near j y p l u hy hyd hl hu).le hle
open Classical in
theorem df_step (hk : Kn P mt) (hnn : n0 + L.length < 65536) (h : DfK P NG N mt ops L) (ht : TrF c (flsOf L n0) n0 L L.length Fm S) (h0 : ∀ j, Flo L j → Hp.get (S 0).h (n0 + j) = .no) (hc : CAll P NG B0 c) (hb0 : Base NG r0) (hr0 : r0.n = n0) (hlt0 : ∀ b, r0.has b → b < r0.n)
    {listed : Array Bool} {a : Act} {w : World} {q : Nat} {r : Rho} {U : St} (hI : DfI B0 N L Fm S n0 r0 s0 w0 df listed a w q r U)
    {i : Nat} (hi : i ∈ Region.ready .any ops listed) {Q : Exit → Act → World → Prop} {K : Act → World → Prop} (hK : ∀ a' w' q' r' U', DfI B0 N L Fm S n0 r0 s0 w0 df (listed.setIfInBounds i true) a' w' q' r' U' → K a' w') : wpOpIn (Wd ro) 0 P ops Q i K a w := by
  obtain ⟨hnl, o, ho, haf⟩ := mem_ready.1 hi
  have hio : i < ops.size := (Array.getElem?_eq_some_iff.1 ho).1
  have hiL : i < L.length := by rw [← h.len]; exact hio
  have hsz : i < listed.size := by rw [hI.size]; exact hiL
  obtain ⟨x, hx⟩ : ∃ x, L[i]? = some x := ⟨_, List.getElem?_eq_getElem hiL⟩
  obtain ⟨hok, hdB, hds, hg, hpu, hre⟩ := h.snd i o x ho hx
  have hnl' : listed.getD i false ≠ true := by
    rw [Array.getD_eq_getD_getElem?, Array.getElem?_eq_getElem hsz] at hnl ⊢
    simp only [Option.getD_some] at hnl ⊢
    rw [hnl]; simp
  have hmask : ∀ e, bitN x.ms e = true → listed.getD e false = true := fun e he => by
    obtain ⟨z, hz, hbz, hz2⟩ := h.clos i o x ho hx e he
    have hl := haf z hz hbz
    rcases hz2 with rfl | ⟨p, hp, hpe⟩
    · exact hl
    · exact hI.clos _ p hp hl e hpe
  have hlater : ∀ j y, L[j]? = some y → bitN y.ms i = true → listed.getD j false ≠ true := fun j y hy hb hl => hnl' (hI.clos j y hy hl i hb)
  -- the frame that tells what i waits for alone
  let fs : Fr := frOf fun p l => if ∃ (j : Nat) (y : DI), L[j]? = some y ∧ y.ds = .to p l ∧ bitN x.ms j = false ∧ bitN y.ms i = false then .u else F.get l (F.get p (Fm i))
  have hfs : FrR N r fs a := by
    refine ⟨hI.tsz, fun p l v hv => ?_⟩
    rw [frOf_get]
    split
    · trivial
    · rename_i hno
      by_cases hany : ∃ (j : Nat) (y : DI), L[j]? = some y ∧ y.ds = .to p l
      · obtain ⟨j, y, hy, hyd⟩ := hany
        by_cases hbit : bitN x.ms j = true
        · rw [ht.get_near h hy hyd (h.low i x hx j hbit) (Nat.le_of_lt hiL)]
          exact hI.near j y p l v hy hyd (hmask j hbit) hv
        · have hby : bitN y.ms i = true := by
            cases hb : bitN y.ms i
            · exact absurd ⟨j, y, hy, hyd, by simpa using hbit, hb⟩ hno
            · rfl
          have hij := h.low j y hy i hby
          have huniq : ∀ j' z, L[j']? = some z → z.ds = .to p l → j' = j := fun j' z hz hzd => by
            by_cases e : j' = j
            · exact e
            · exact absurd hyd (h.dst j' j z y hz hy e p l hzd)
          rw [ht.get_far h (Nat.zero_le i) (Nat.le_of_lt hiL) fun j' z _ h2 hz hzd => by have := huniq j' z hz hzd; omega]
          exact hI.far p l v (fun j' z hz hzd => by rw [huniq j' z hz hzd]; exact hlater j y hy hby) hv
      · rw [ht.get_far h (Nat.zero_le i) (Nat.le_of_lt hiL) fun j y _ _ hy hyd => hany ⟨j, y, hy, hyd⟩]
        exact hI.far p l v (fun j y hy hyd => absurd ⟨j, y, hy, hyd⟩ hany) hv
  have hopd : ∀ z ∈ rdsI x.is, X.ev z (Fm i) = X.ev z fs := fun z hz => by
    cases z with
    | k v => rfl
    | t p l =>
      show F.get l (F.get p (Fm i)) = F.get l (F.get p fs)
      rw [frOf_get, if_neg]
      rintro ⟨j, y, hy, hyd, hb, hb2⟩
      rcases h.opd j i y x hy hx p l hz hyd with this | this
      · rw [hb] at this; cases this
      · rw [hb2] at this; cases this
  have hst := ht.step i x hiL hx
  have hclos' : ∀ (j : Nat) (y : DI), L[j]? = some y → (listed.setIfInBounds i true).getD j false = true → ∀ e, bitN y.ms e = true → (listed.setIfInBounds i true).getD e false = true := fun j y hy hl e he => by
    rw [getD_set hsz] at hl ⊢
    rcases hl with e' | hl
    · rw [e', hx] at hy; cases hy
      exact .inr (hmask e he)
    · exact .inr (hI.clos j y hy hl e he)
  have hqn : U.n = r.n := hI.sim.n
  by_cases hflo : x.kd = .flo
  · -- a block is made
    have hFi : Flo L i := ⟨x, hx, hflo⟩
    unfold StepF at hst
    rw [hflo] at hst
    obtain ⟨t, hev, htn, hS1, hbel⟩ := hst
    let fs' : Fr := frOf fun p l => if X.t p l ∈ rdsI x.is then F.get l (F.get p (Fm i)) else .u
    have hbelx : ∀ z ∈ rdsI x.is, belA n0 (X.ev z (Fm i)) = true := by
      have key : ∀ l : List X, belX n0 l (Fm i) = true → ∀ z ∈ l, belA n0 (X.ev z (Fm i)) = true := by
        intro l
        induction l with
        | nil => intro _ z hz; cases hz
        | cons y l ih =>
          intro hb z hz
          have hb : (belA n0 (X.ev y (Fm i)) && belX n0 l (Fm i)) = true := hb
          rw [Bool.and_eq_true] at hb
          rcases List.mem_cons.1 hz with rfl | hz
          · exact hb.1
          · exact ih hb.2 z hz
      exact key _ hbel
    have hcut : FrR N (r.cut n0 (n0 + i)) fs' a := by
      refine ⟨hI.tsz, fun p l v hv => ?_⟩
      rw [frOf_get]
      split
      · rename_i hmem
        have h1 := hfs.get p l v hv
        have h2 : F.get l (F.get p fs) = F.get l (F.get p (Fm i)) := (hopd _ hmem).symm
        rw [h2] at h1
        exact (rel_cut _).1 v (hbelx _ hmem) h1
      · trivial
    have hopd' : ∀ z ∈ rdsI x.is, X.ev z (Fm i) = X.ev z fs' := fun z hz => by
      cases z with
      | k v => rfl
      | t p l =>
        show F.get l (F.get p (Fm i)) = F.get l (F.get p fs')
        rw [frOf_get, if_pos hz]
    have hsim0 : Sim B0 (r.cut n0 (n0 + i)) (.mk Hp.non (n0 + i)) w := by
      refine ⟨rfl, fun b hb => ?_, hI.sim.low, fun b => ?_, fun b b' hb => ?_, hI.sim.ety⟩
      · have := hb.2
        show b < n0 + i
        omega
      · rw [St.h_mk, Hp.get_non]; trivial
      · rw [St.h_mk, Hp.get_non] at hb; exact hb.elim
    have hle0 : r0.Le (r.cut n0 (n0 + i)) := by
      refine ⟨by show r0.n ≤ n0 + i; omega, fun b hb => ?_, fun b hb => hI.stp.le.loop b hb, hI.stp.le.opq⟩
      obtain ⟨e0, e1, e2, e3⟩ := hI.stp.le.same b hb
      exact ⟨⟨e0, by rw [← hr0]; exact hlt0 b hb⟩, e1, e2, e3⟩
    have hloc := loc (fr := Fm i) (fr' := fs') (c := c) (s := .mk Hp.non (n0 + i)) (k := enc x.ds) (k' := enc x.ds) x.is hg hopd' (fun v t => by rw [hds]; exact enc_put _ _ _ _ _)
    rw [hev] at hloc
    rcases snd_g (P := P) (NG := NG) (B0 := B0) (N := N) (C := CAll P NG B0) (ro := ro) (fun o i h => snd_cj hk h) ho hok hc fs' (.mk Hp.non (n0 + i)) with hbad | ⟨f2, t2, hf2, hdo⟩
    · rw [hbad] at hloc; cases hloc
    rw [hf2] at hloc
    obtain ⟨hv2, rfl⟩ := enc_inj hloc
    refine wpOpIn_mono ?_ (wpOpIn_put ho (hdo (r.cut n0 (n0 + i)) w a (hb0.le hle0) hsim0 hcut Q (fun a' w' => ∃ r', Sim B0 r' t w' ∧ Stp (r.cut n0 (n0 + i)) (.mk Hp.non (n0 + i)) w r' t w' ∧ FrR N r' f2 a' ∧ a'.defers = a.defers) fun a' w' r' k1 k2 k3 k4 => ⟨r', k1, k2, k3, k4⟩))
    rintro a' w' ⟨⟨r', k1, k2, k3, k4⟩, v, hv⟩
    have hfr := hI.fresh i hFi hnl'
    have hidn : n0 + i < r.n := by have := hI.hn; omega
    have htn' : r'.n = n0 + i + 1 := by rw [← k1.n]; exact htn
    -- the places, with the new block
    obtain ⟨r2, hr2⟩ : ∃ r2 : Rho, r2 = ⟨r.n, fun b => r.has b ∨ (b = n0 + i ∧ r'.has (n0 + i)), fun b => if b = n0 + i then r'.blk b else r.blk b, fun b => if b = n0 + i then r'.off b else r.off b, fun b => if b = n0 + i then r'.tot b else r.tot b, fun b => if b = n0 + i then r'.lp b else r.lp b, r.opq⟩ := ⟨_, rfl⟩
    have hne : ∀ b, r.has b → b ≠ n0 + i := fun b hb e => hfr (e ▸ hb)
    have hle : r.Le r2 := by
      rw [hr2]
      exact ⟨Nat.le_refl _, fun b hb => by simp [hne b hb, hb], fun b hb => by simp [hne b hb], rfl⟩
    have hle2 : r'.Le r2 := by
      have hcase : ∀ b, r'.has b → (r.has b ∧ b < n0) ∨ b = n0 + i := fun b hb => by
        rcases k2.new b hb with h1 | h1
        · exact .inl h1
        · have := k1.lt b hb
          have h1 : n0 + i ≤ b := h1
          exact .inr (by omega)
      rw [hr2]
      refine ⟨by show r'.n ≤ r.n; omega, fun b hb => ?_, fun b hb => ?_, k2.le.opq.symm⟩
      · rcases hcase b hb with ⟨h1, h2⟩ | rfl
        · have hb' : (r.cut n0 (n0 + i)).has b := ⟨h1, h2⟩
          obtain ⟨_, e1, e2, e3⟩ := k2.le.same b hb'
          simp only [hne b h1, if_false, h1, true_or, true_and]
          exact ⟨e1.symm, e2.symm, e3.symm⟩
        · simp [hb]
      · rcases hcase b hb with ⟨h1, h2⟩ | rfl
        · simp only [hne b h1, if_false]
          exact (k2.le.loop b ⟨h1, h2⟩).symm
        · simp
    have hkeep : ∀ y, y < w.heap.size → w'.heap[y]? = w.heap[y]? := fun y hy => k2.keep y hy fun b hb => by rw [St.h_mk, Hp.get_non] at hb; exact hb.elim
    have hnewblk : (Hp.get t.h (n0 + i)).live → w.heap.size ≤ r'.blk (n0 + i) := fun hl => by
      rcases k2.old _ hl with ⟨a, ha, _⟩ | h1
      · rw [St.h_mk, Hp.get_non] at ha; exact ha.elim
      · exact h1
    -- the heap, with the new block
    obtain ⟨U', hU'⟩ := HpI.mk' L S n0 hnn (listed.setIfInBounds i true) q
    have hgetid : Hp.get U'.h (n0 + i) = Hp.get t.h (n0 + i) := by
      rw [hU'.has i hFi ((getD_set hsz).2 (.inl rfl))]
      have e1 : Hp.get (S (i + 1)).h (n0 + i) = Hp.get t.h (n0 + i) := by rw [hS1, St.h_mk, Hp.get_put_lt _ (by omega), if_pos rfl]
      split
      · rename_i hiq
        rw [ht.keep hnn hFi hiq hI.hq fun e p h1 h2 h3 h4 => ?_, e1]
        cases hb : bitN p.ms i
        · rfl
        · exact absurd ((hI.acts e p h3 h4).2 h2) (hlater e p h3 hb)
      · exact e1
    have hgetne : ∀ b, b ≠ n0 + i → Hp.get U'.h b = Hp.get U.h b := fun b hb => by
      by_cases hf : ∃ j, Flo L j ∧ b = n0 + j
      · obtain ⟨j, hj, rfl⟩ := hf
        by_cases hl : listed.getD j false = true
        · rw [hU'.has j hj ((getD_set hsz).2 (.inr hl)), hI.hp.has j hj hl]
        · rw [hU'.not j hj (fun hl' => hl ((getD_set hsz).1 hl' |>.resolve_left fun e => hb (by rw [e]))), hI.hp.not j hj hl]
      · rw [hU'.out b (fun j hj e => hf ⟨j, hj, e⟩), hI.hp.out b (fun j hj e => hf ⟨j, hj, e⟩)]
    have hblk : ∀ b, b ≠ n0 + i → r2.blk b = r.blk b := fun b hb => by rw [hr2]; simp [hb]
    have hblki : r2.blk (n0 + i) = r'.blk (n0 + i) := by rw [hr2]; simp
    have hsim' : Sim B0 r2 U' w' := by
      refine ⟨?_, fun b hb => ?_, Nat.le_trans hI.sim.low k2.size, fun b => ?_, fun b b' hb hb' e => ?_, k1.ety⟩
      · rw [hU'.n, ← hI.hp.n, hqn, hr2]
      · rw [hr2] at hb ⊢
        rcases hb with hb | ⟨rfl, _⟩
        · exact hI.sim.lt b hb
        · exact hidn
      · by_cases hb : b = n0 + i
        · subst hb
          rw [hgetid]
          exact OkB.le (k1.ok _) hle2 rfl
        · rw [hgetne b hb]
          by_cases hno : Hp.get U.h b = .no
          · rw [hno]; trivial
          · exact OkB.le (hI.sim.ok b) hle (hkeep _ ((hI.sim.ok b).lt hno).2)
      · by_cases e1 : b = n0 + i <;> by_cases e2 : b' = n0 + i
        · rw [e1, e2]
        · exfalso
          subst e1
          rw [hgetid] at hb
          rw [hgetne b' e2] at hb'
          rw [hblki, hblk b' e2] at e
          have := hnewblk hb
          have := ((hI.sim.ok b').lt (live_ne hb')).2
          omega
        · exfalso
          subst e2
          rw [hgetid] at hb'
          rw [hgetne b e1] at hb
          rw [hblki, hblk b e1] at e
          have := hnewblk hb'
          have := ((hI.sim.ok b).lt (live_ne hb)).2
          omega
        · rw [hgetne b e1] at hb
          rw [hgetne b' e2] at hb'
          rw [hblk b e1, hblk b' e2] at e
          exact hI.sim.inj b b' hb hb' e
    have hstp' : Stp r0 s0 w0 r2 U' w' := by
      refine ⟨hI.stp.le.trans hle, k2.os.trans hI.stp.os, k2.tape.trans hI.stp.tape, k2.output.trans hI.stp.output, Nat.le_trans hI.stp.size k2.size, fun y hy hn => ?_, fun b hb => ?_, fun b hb => ?_⟩
      · rw [hkeep y (Nat.lt_of_lt_of_le hy hI.stp.size)]
        exact hI.stp.keep y hy hn
      · rw [hr2] at hb
        rcases hb with hb | ⟨rfl, _⟩
        · exact hI.stp.new b hb
        · right; omega
      · by_cases e1 : b = n0 + i
        · subst e1
          rw [hgetid] at hb
          right
          rw [hblki]
          exact Nat.le_trans hI.stp.size (hnewblk hb)
        · rw [hgetne b e1] at hb
          rw [hblk b e1]
          exact hI.stp.old b hb
    obtain ⟨z1, z2⟩ := df_slots h hI ho hx hsz hv hle fun p l u hxd hu => by
      rw [hv2, hxd, D.get_to]
      exact (k3.get p l u hu).le hle2
    refine hK a' w' q r2 U' ⟨by simpa using hI.size, hI.hq, fun j y hy hky => ?_, hU', fun j hj hl hh => ?_, ?_, hsim', hstp', hclos', k3.size, k4.trans hI.dfr, z1, z2⟩
    · rw [getD_set hsz, ← hI.acts j y hy hky]
      constructor
      · rintro (e | hl)
        · rw [e, hx] at hy; cases hy; rw [hflo] at hky; cases hky
        · exact hl
      · exact .inr
    · rw [hr2] at hh
      rcases hh with hh | ⟨e, _⟩
      · exact hI.fresh j hj (fun hl' => hl ((getD_set hsz).2 (.inr hl'))) hh
      · exact hl ((getD_set hsz).2 (.inl (by omega)))
    · rw [hr2]; exact hI.hn
  · -- it reads, or acts
    have hnf : ¬ Flo L i := fun ⟨y, hy, hky⟩ => by rw [hx] at hy; cases hy; exact hflo hky
    have hval : ∃ V f1 t1, (∀ k, evI x.is c (Fm i) V k = k f1 t1) ∧ D.get x.ds f1 = D.get x.ds (Fm (i + 1)) ∧ V.n = U.n ∧ (∀ b, Hp.get V.h b = .no ∨ Hp.get V.h b = Hp.get U.h b) ∧
        (x.kd = .act → V = hide (flsOf L n0) x.ms (S i) ∧ S (i + 1) = .mk (plusH (flsOf L n0) x.ms (S i).h t1.h) t1.n ∧ ∀ (j : Nat) (y : DI), L[j]? = some y → y.kd = .act → (j < i ↔ j < q)) := by
      unfold StepF at hst
      cases hkd : x.kd with
      | flo => exact absurd hkd hflo
      | act =>
        rw [hkd] at hst
        obtain ⟨t, hev, hS1⟩ := hst
        have hsame : ∀ (j : Nat) (y : DI), L[j]? = some y → y.kd = .act → (j < i ↔ j < q) := fun j y hy hky => by
          rw [← hI.acts j y hy hky]
          constructor
          · intro hlt
            exact hmask j (h.chain j i y x hy hx hlt hky hkd)
          · intro hl
            rcases Nat.lt_trichotomy j i with e | e | e
            · exact e
            · rw [e] at hl; exact absurd hl hnl'
            · exact absurd hl (hlater j y hy (h.chain i j x y hx hy e hkd hky))
        obtain ⟨g1, g2⟩ := view_sub hnn h ht h0 hI.hq hI.hp (Nat.le_of_lt hiL) hmask hsame
        exact ⟨_, _, t, hev, rfl, g1, g2, fun _ => ⟨rfl, hS1, hsame⟩⟩
      | pure =>
        rw [hkd] at hst
        obtain ⟨⟨t, hev⟩, _⟩ := hst
        refine ⟨U, Fm (i + 1), U, fun k => ?_, rfl, rfl, fun b => .inr rfl, fun e => by cases e⟩
        have := locS (fr := Fm i) (c := c) (s := U) (s' := S i) (k := k) (k' := fun f _ => k f U) x.is (hpu hkd) hg fun v => rfl
        rw [this, hev]
      | read =>
        rw [hkd] at hst
        obtain ⟨⟨t, hev⟩, _⟩ := hst
        obtain ⟨g1, g2⟩ := view_sub hnn h ht h0 hI.hq hI.hp (Nat.le_of_lt hiL) hmask fun j y hy hky => by
          rw [← hI.acts j y hy hky]
          constructor
          · intro hlt
            exact hmask j (h.rd1 j i y x hy hx hlt hky hkd)
          · intro hl
            rcases Nat.lt_trichotomy j i with e | e | e
            · exact e
            · rw [e] at hl; exact absurd hl hnl'
            · exact absurd hl (hlater j y hy (h.rd2 i j x y hx hy e hkd hky))
        exact ⟨_, _, t, hev, rfl, g1, g2, fun e => by cases e⟩
      | rdx =>
        rw [hkd] at hst
        obtain ⟨⟨t, hev⟩, _⟩ := hst
        have hag : ∀ e, e ≤ L.length → Ag c x.ds x.is (Fm i) (D.get x.ds (Fm (i + 1))) (hide (flsOf L n0) x.ms (S e)) → (∀ (j : Nat) (y : DI), L[j]? = some y → y.kd = .act → (j < e ↔ j < q)) →
            ∃ V f1 t1, (∀ k, evI x.is c (Fm i) V k = k f1 t1) ∧ D.get x.ds f1 = D.get x.ds (Fm (i + 1)) ∧ V.n = U.n ∧ (∀ b, Hp.get V.h b = .no ∨ Hp.get V.h b = Hp.get U.h b) ∧
              (Kd.rdx = .act → V = hide (flsOf L n0) x.ms (S i) ∧ S (i + 1) = .mk (plusH (flsOf L n0) x.ms (S i).h t1.h) t1.n ∧ ∀ (j : Nat) (y : DI), L[j]? = some y → y.kd = .act → (j < i ↔ j < q)) := fun e he ⟨f1, s2, h1, h2⟩ hsame => by
          obtain ⟨g1, g2⟩ := view_sub hnn h ht h0 hI.hq hI.hp he hmask hsame
          exact ⟨_, f1, s2, h1, h2, g1, g2, fun e => by cases e⟩
        by_cases hq1 : ∃ (j : Nat) (y : DI), L[j]? = some y ∧ y.kd = .act ∧ q ≤ j ∧ j < i
        · obtain ⟨e, he, hmin⟩ : ∃ e, (∃ y, L[e]? = some y ∧ y.kd = .act ∧ q ≤ e ∧ e < i) ∧ ∀ j, j < e → ¬ ∃ y, L[j]? = some y ∧ y.kd = .act ∧ q ≤ j ∧ j < i := by
            obtain ⟨j, hj⟩ := hq1
            exact least_of (p := fun e => ∃ y, L[e]? = some y ∧ y.kd = .act ∧ q ≤ e ∧ e < i) hj
          obtain ⟨y, hy, hky, hqe, hei⟩ := he
          have hb : bitN x.ms e = false := by
            cases hb : bitN x.ms e
            · rfl
            · have := (hI.acts e y hy hky).1 (hmask e hb); omega
          refine hag e (by omega) (ht.back i x e y hiL hx hkd hei hy hky hb) fun j z hz hkz => ?_
          constructor
          · intro hj
            rcases Nat.lt_or_ge j q with h1 | h1
            · exact h1
            · exact absurd ⟨z, hz, hkz, h1, by omega⟩ (hmin j hj)
          · intro hj; omega
        · by_cases hq2 : ∃ (j : Nat) (y : DI), L[j]? = some y ∧ y.kd = .act ∧ i < j ∧ j < q
          · obtain ⟨e, he, hmax⟩ : ∃ e, (∃ y, L[e]? = some y ∧ y.kd = .act ∧ i < e ∧ e < q) ∧ ∀ j, e < j → ¬ ∃ y, L[j]? = some y ∧ y.kd = .act ∧ i < j ∧ j < q := by
              have key : ∀ m, m ≤ q → (∃ (j : Nat) (y : DI), L[j]? = some y ∧ y.kd = .act ∧ i < j ∧ q - m ≤ j ∧ j < q) → ∃ e, (∃ y, L[e]? = some y ∧ y.kd = .act ∧ i < e ∧ e < q) ∧ ∀ j, e < j → ¬ ∃ y, L[j]? = some y ∧ y.kd = .act ∧ i < j ∧ j < q := by
                intro m
                induction m with
                | zero => rintro _ ⟨j, y, _, _, _, h1, h2⟩; omega
                | succ m ih =>
                  rintro hm ⟨j, y, hy, hky, hij, h1, h2⟩
                  by_cases hne : ∃ (j : Nat) (y : DI), L[j]? = some y ∧ y.kd = .act ∧ i < j ∧ q - m ≤ j ∧ j < q
                  · exact ih (by omega) hne
                  · have hj : j = q - (m + 1) := by
                      rcases Nat.lt_or_ge j (q - m) with h3 | h3
                      · omega
                      · exact absurd ⟨j, y, hy, hky, hij, h3, h2⟩ hne
                    refine ⟨j, ⟨y, hy, hky, hij, h2⟩, fun j' hj' ⟨z, hz, hkz, h3, h4⟩ => hne ⟨j', z, hz, hkz, h3, by omega, h4⟩⟩
              obtain ⟨j, y, hy, hky, h1, h2⟩ := hq2
              exact key q (Nat.le_refl _) ⟨j, y, hy, hky, h1, by omega, h2⟩
            obtain ⟨y, hy, hky, hie, heq⟩ := he
            have hb : bitN y.ms i = false := by
              cases hb : bitN y.ms i
              · rfl
              · exact absurd ((hI.acts e y hy hky).2 heq) (hlater e y hy hb)
            have heL : e < L.length := (List.getElem?_eq_some_iff.1 hy).1
            refine hag (e + 1) (by omega) (ht.fwd i x e y heL hx hkd hie hy hky hb) fun j z hz hkz => ?_
            constructor
            · intro hj; omega
            · intro hj
              rcases Nat.lt_or_ge e j with h1 | h1
              · exact absurd ⟨z, hz, hkz, by omega, hj⟩ (hmax j h1)
              · omega
          · refine hag i (Nat.le_of_lt hiL) ⟨_, t, hev, rfl⟩ fun j z hz hkz => ?_
            constructor
            · intro hj
              rcases Nat.lt_or_ge j q with h1 | h1
              · exact h1
              · exact absurd ⟨j, z, hz, hkz, h1, hj⟩ hq1
            · intro hj
              rcases Nat.lt_trichotomy j i with e | e | e
              · exact e
              · rw [e, hx] at hz; cases hz; rw [hkd] at hkz; cases hkz
              · exact absurd ⟨j, z, hz, hkz, e, hj⟩ hq2
    obtain ⟨V, f1, t1, hf1, hv1, hVn, hVsub, hact1⟩ := hval
    have hloc := loc (fr := Fm i) (fr' := fs) (c := c) (s := V) (k := enc x.ds) (k' := enc x.ds) x.is hg hopd (fun v t => by rw [hds]; exact enc_put _ _ _ _ _)
    rw [hf1] at hloc
    rcases snd_g (P := P) (NG := NG) (B0 := B0) (N := N) (C := CAll P NG B0) (ro := ro) (fun o i h => snd_cj hk h) ho hok hc fs V with hbad | ⟨f2, t2, hf2, hdo⟩
    · rw [hbad] at hloc; cases hloc
    rw [hf2] at hloc
    obtain ⟨hv2, rfl⟩ := enc_inj hloc
    have hsimV : Sim B0 r V w := hI.sim.sub hVn hVsub
    refine wpOpIn_mono ?_ (wpOpIn_put ho (hdo r w a (hb0.le hI.stp.le) hsimV hfs Q (fun a' w' => ∃ r', Sim B0 r' t1 w' ∧ Stp r V w r' t1 w' ∧ FrR N r' f2 a' ∧ a'.defers = a.defers) fun a' w' r' k1 k2 k3 k4 => ⟨r', k1, k2, k3, k4⟩))
    rintro a' w' ⟨⟨r', k1, k2, k3, k4⟩, v, hv⟩
    have hnewn : ∀ j, Flo L j → listed.getD j false ≠ true → ¬ r'.has (n0 + j) := fun j hj hl hh => by
      rcases k2.new _ hh with h1 | h1
      · exact hI.fresh j hj hl h1
      · obtain ⟨y, hy, _⟩ := hj
        have := (List.getElem?_eq_some_iff.1 hy).1
        have := hI.hn
        omega
    obtain ⟨z1, z2⟩ := df_slots h hI ho hx hsz hv k2.le fun p l u hxd hu => by
      rw [← hv1, hv2, hxd, D.get_to]
      exact k3.get p l u hu
    have hfresh' : ∀ j, Flo L j → (listed.setIfInBounds i true).getD j false ≠ true → ¬ r'.has (n0 + j) := fun j hj hl => hnewn j hj fun hl' => hl ((getD_set hsz).2 (.inr hl'))
    by_cases hka : x.kd = .act
    · obtain ⟨hVe, hS1, hsame⟩ := hact1 hka
      obtain ⟨U', hU'⟩ := HpI.mk' L S n0 hnn (listed.setIfInBounds i true) (i + 1)
      have hqi : q ≤ i := by
        rcases Nat.lt_or_ge i q with h1 | h1
        · exact absurd ((hI.acts i x hx hka).2 h1) hnl'
        · exact h1
      have hSn : (S (i + 1)).n = t1.n := by rw [hS1]; rfl
      have hSg : ∀ b, Hp.get (S (i + 1)).h b = if Hid' (flsOf L n0) x.ms b then Hp.get (S i).h b else Hp.get t1.h b := fun b => by rw [hS1, St.h_mk, plusH_get (fls_lt hnn)]
      have hVg : ∀ b, Hp.get V.h b = if Hid' (flsOf L n0) x.ms b then .no else Hp.get (S i).h b := fun b => by
        rw [hVe]
        show Hp.get (hideH _ _ _) b = _
        rw [hideH_get (fls_lt hnn)]
      obtain ⟨g1, g2⟩ := Sim.frame hI.sim hVsub k1 k2 (u' := U') (by rw [hU'.n, hSn]) fun b => by
        by_cases hf : ∃ j, Flo L j ∧ b = n0 + j
        · obtain ⟨j, hj, rfl⟩ := hf
          have hji : j ≠ i := fun e => hnf (e ▸ hj)
          by_cases hl : listed.getD j false = true
          · by_cases hbit : bitN x.ms j = true
            · right; left
              rw [hU'.has j hj ((getD_set hsz).2 (.inr hl)), if_pos (by have := h.low i x hx j hbit; omega), hSg, if_neg]
              intro hh
              obtain ⟨j', _, e, hb'⟩ := hid_iff.1 hh
              obtain rfl : j = j' := by omega
              rw [hbit] at hb'; cases hb'
            · right; right
              have hh : Hid' (flsOf L n0) x.ms (n0 + j) := hid_iff.2 ⟨j, hj, rfl, by simpa using hbit⟩
              refine ⟨?_, by rw [hVg, if_pos hh]⟩
              rw [hU'.has j hj ((getD_set hsz).2 (.inr hl)), hI.hp.has j hj hl]
              by_cases hji' : j < i
              · rw [if_pos (by omega), hSg, if_pos hh]
                split
                · rename_i hjq
                  exact (ht.same hnn (Nat.le_of_lt hiL) hI.hq hsame).2 _ fun j' _ e => by omega
                · exact ht.made hnn hj hji' (Nat.le_of_lt hiL) fun e p h1 h2 h3 h4 => by have := (hsame e p h3 h4).1 h2; omega
              · rw [if_neg (by omega), if_neg (by omega)]
          · left
            exact hU'.not j hj fun hl' => hl ((getD_set hsz).1 hl' |>.resolve_left hji)
        · right; left
          rw [hU'.out b (fun j hj e => hf ⟨j, hj, e⟩), hSg, if_neg]
          intro hh
          obtain ⟨j, hj, e, _⟩ := hid_iff.1 hh
          exact hf ⟨j, hj, e⟩
      refine hK a' w' (i + 1) r' U' ⟨by simpa using hI.size, hiL, fun j y hy hky => ?_, hU', hfresh', Nat.le_trans hI.hn k2.le.n, g1, hI.stp.trans g2, hclos', k3.size, k4.trans hI.dfr, z1, z2⟩
      rw [getD_set hsz]
      constructor
      · rintro (e | hl)
        · omega
        · rcases Nat.lt_trichotomy j i with e | e | e
          · omega
          · omega
          · exact absurd (hI.clos j y hy hl i (h.chain i j x y hx hy e hka hky)) hnl'
      · intro hj
        by_cases e : j = i
        · exact .inl e
        · exact .inr (hmask j (h.chain j i y x hy hx (by omega) hky hka))
    · have hkeep : t1 = V := by
        have := locK (fr := fs) (c := c) (s := V) (k := .nrm) (k' := fun f _ => .nrm f V) x.is (hre hka hflo) hg fun v => rfl
        rw [hf2, hf2] at this
        injection this
      subst hkeep
      obtain ⟨g1, g2⟩ := Sim.frame hI.sim hVsub k1 k2 (u' := U) hVn.symm fun b => by
        rcases hVsub b with e | e
        · exact .inr (.inr ⟨rfl, e⟩)
        · exact .inr (.inl e.symm)
      refine hK a' w' q r' U ⟨by simpa using hI.size, hI.hq, fun j y hy hky => ?_, hI.hp.more hsz hnf, hfresh', Nat.le_trans hI.hn k2.le.n, g1, hI.stp.trans g2, hclos', k3.size, k4.trans hI.dfr, z1, z2⟩
      rw [getD_set hsz, ← hI.acts j y hy hky]
      constructor
      · rintro (e | hl)
        · rw [e, hx] at hy; cases hy; exact absurd hky hka
        · exact hl
      · exact .inr
end
end Go.Proofs.YtenpbpgoglepfaaGreatDoor
namespace Go.Proofs.YtenpbpgoglepfaaGreatDoor
open Go.RowKit
set_option linter.unusedVariables false

section
variable {P : Program} {NG : Env} {B0 N : Nat} {ro : Option Nat} {mt : Mt} {ops : Array Oper} {L : List DI} {c : CallE} {Fm : Nat → Fr} {S : Nat → St} {n0 : Nat} {r0 : Rho} {s0 : St} {w0 : World} {df : List Deferred}
theorem Stp.to {r r' : Rho} {s s' u : St} {w w' : World} (h : Stp r s w r' u w') (hu : ∀ b, (Hp.get s'.h b).live → (Hp.get u.h b).live) : Stp r s w r' s' w' := ⟨h.le, h.os, h.tape, h.output, h.size, h.keep, h.new, fun b hb => h.old b (hu b hb)⟩
theorem df_any (hk : Kn P mt) (hnn : n0 + L.length < 65536) (h : DfK P NG N mt ops L) (ht : TrF c (flsOf L n0) n0 L L.length Fm S) (h0 : ∀ j, Flo L j → Hp.get (S 0).h (n0 + j) = .no) (hc : CAll P NG B0 c) (hb0 : Base NG r0) (hr0 : r0.n = n0) (hlt0 : ∀ b, r0.has b → b < r0.n) {Q : Exit → Act → World → Prop}
    (hend : ∀ a w r, Sim B0 r (S L.length) w → Stp r0 s0 w0 r (S L.length) w → FrR N r (Fm L.length) a → a.defers = df → Q .normal a w) :
    ∀ (fuel : Nat) (listed : Array Bool) (a : Act) (w : World) (q : Nat) (r : Rho) (U : St), listed.toList.count false ≤ fuel → DfI B0 N L Fm S n0 r0 s0 w0 df listed a w q r U → wpAnyIn (Wd ro) 0 P .any ops Q fuel listed a w := by
  have hall : ∀ (listed : Array Bool), listed.size = L.length → Region.ready .any ops listed = [] → ∀ i, i < L.length → listed.getD i false = true := by
    intro listed hsz hr i
    induction i using Nat.strongRecOn with
    | ind i ih =>
      intro hi
      have hio : i < ops.size := by rw [h.len]; exact hi
      by_cases hl : listed.getD i true = false
      · have : i ∈ Region.ready .any ops listed := mem_ready.2 ⟨hl, ops[i], Array.getElem?_eq_getElem hio, fun e he hb => by
          have hx : L[i]? = some L[i] := List.getElem?_eq_getElem hi
          have := h.low i _ hx _ (h.edge i _ _ (Array.getElem?_eq_getElem hio) hx e he hb)
          exact ih e.on this (by omega)⟩
        rw [hr] at this
        cases this
      · simp only [Array.getD_eq_getD_getElem?, Array.getElem?_eq_getElem (show i < listed.size by omega), Option.getD_some] at hl ⊢
        simpa using hl
  have hfin : ∀ (listed : Array Bool) (a : Act) (w : World) (q : Nat) (r : Rho) (U : St), Region.ready .any ops listed = [] → DfI B0 N L Fm S n0 r0 s0 w0 df listed a w q r U → Q .normal a w := by
    intro listed a w q r U hr hI
    have ha := hall listed hI.size hr
    have hqa : ∀ (j : Nat) (x : DI), L[j]? = some x → x.kd = .act → (j < q ↔ j < L.length) := fun j x hx hkx => by
      have hj := (List.getElem?_eq_some_iff.1 hx).1
      exact ⟨fun _ => hj, fun _ => (hI.acts j x hx hkx).1 (ha j hj)⟩
    obtain ⟨g1, g2⟩ := ht.same hnn hI.hq (Nat.le_refl _) hqa
    have hget : ∀ b, Hp.get (S L.length).h b = Hp.get U.h b := fun b => by
      by_cases hf : ∃ j, Flo L j ∧ b = n0 + j
      · obtain ⟨j, hj, rfl⟩ := hf
        have hjL : j < L.length := by obtain ⟨y, hy, _⟩ := hj; exact (List.getElem?_eq_some_iff.1 hy).1
        rw [hI.hp.has j hj (ha j hjL)]
        split
        · rename_i hjq
          exact (g2 _ fun j' _ e => by omega).symm
        · exact ht.made hnn hj hjL (Nat.le_refl _) fun e p h1 h2 h3 h4 => by have := (hqa e p h3 h4).2 h2; omega
      · rw [hI.hp.out b fun j hj e => hf ⟨j, hj, e⟩]
        exact (g2 b fun j hj e => absurd ⟨j, hj, e⟩ hf).symm
    refine hend a w r (hI.sim.sub (by rw [← g1, hI.hp.n]) fun b => .inr (hget b)) (hI.stp.to fun b hb => by rw [← hget b]; exact hb) ⟨hI.tsz, fun p l v hv => ?_⟩ hI.dfr
    by_cases hany : ∃ (j : Nat) (y : DI), L[j]? = some y ∧ y.ds = .to p l
    · obtain ⟨j, y, hy, hyd⟩ := hany
      have hj := (List.getElem?_eq_some_iff.1 hy).1
      rw [ht.get_near h hy hyd hj (Nat.le_refl _)]
      exact hI.near j y p l v hy hyd (ha j hj) hv
    · rw [ht.get_far h (Nat.zero_le _) (Nat.le_refl _) fun j y _ _ hy hyd => hany ⟨j, y, hy, hyd⟩]
      exact hI.far p l v (fun j y hy hyd => absurd ⟨j, y, hy, hyd⟩ hany) hv
  intro fuel
  induction fuel with
  | zero =>
    intro listed a w q r U hc' hI
    have hr : Region.ready .any ops listed = [] := by
      apply List.eq_nil_iff_forall_not_mem.2
      intro j hj
      obtain ⟨h1, o, h2, _⟩ := mem_ready.1 hj
      have hlt : j < listed.size := by rw [hI.size, ← h.len]; exact (Array.getElem?_eq_some_iff.1 h2).1
      have hm : false ∈ listed.toList := by
        rw [Array.getD_eq_getD_getElem?, Array.getElem?_eq_getElem hlt, Option.getD_some] at h1
        rw [← h1]
        simp
      have := List.count_pos_iff.2 hm
      omega
    exact ⟨hr, hfin listed a w q r U hr hI⟩
  | succ fuel ih =>
    intro listed a w q r U hc' hI
    refine ⟨fun hr => hfin listed a w q r U hr hI, fun i hi => ?_⟩
    refine df_step hk hnn h ht h0 hc hb0 hr0 hlt0 hI hi fun a' w' q' r' U' hI' => ih _ a' w' q' r' U' ?_ hI'
    obtain ⟨h1, o, h2, h3⟩ := mem_ready.1 hi
    have hsz : i < listed.size := by rw [hI.size, ← h.len]; exact (Array.getElem?_eq_some_iff.1 h2).1
    have hlt : i < listed.toList.length := by simpa using hsz
    rw [Array.toList_setIfInBounds, List.count_set hlt]
    have hfi : listed.toList[i] = false := by
      rw [Array.getD_eq_getD_getElem?, Array.getElem?_eq_getElem hsz, Option.getD_some] at h1
      simpa using h1
    have hm : false ∈ listed.toList := by rw [← hfi]; exact List.getElem_mem _
    have := List.count_pos_iff.2 hm
    rw [hfi]
    simp only [beq_self_eq_true, if_true, show (true == false) = false from rfl, Bool.false_eq_true, if_false]
    omega
theorem lenD_eq : ∀ l : List DI, lenD l = l.length
  | [] => rfl
  | _ :: l => by show Nat.succ (lenD l) = _; rw [lenD_eq l]; rfl
theorem df_wp (hf : P.follows .mixedOrders = true) (hk : Kn P mt) (h : DfK P NG N mt ops L) (id : Nat) : CSnd P NG B0 N (CAll P NG B0) ro (.region id ops true) (.drf L) := fun c hc fr s r w a lo hb hs hfr hdf Q hp => by
  have hL : ∀ q ∈ L, CtI c q.is := fun q hq => by
    obtain ⟨j, hj, rfl⟩ := List.mem_iff_getElem.1 hq
    have hjo : j < ops.size := by rw [h.len]; exact hj
    have ho : ops[j]? = some ops[j] := Array.getElem?_eq_getElem hjo
    obtain ⟨hok, _⟩ := h.snd j _ _ ho (List.getElem?_eq_getElem hj)
    intro fr s
    rcases snd_g (P := P) (NG := NG) (B0 := B0) (N := N) (C := CAll P NG B0) (ro := ro) (fun o i h => snd_cj hk h) ho hok hc fr s with h | ⟨f, t, h, _⟩
    · exact .inl h
    · exact .inr ⟨f, t, h⟩
  have e : evC (.drf L) c fr s = strictN s.n fun n0 => strictN (Nat.add n0 (lenD L)) fun nn => ifB (Nat.blt nn 65536) (evDf (flsOf L n0) n0 L 0 [] [] c fr (.mk (hideH (flsOf L n0) 0 s.h) nn) .nrm) .bad := rfl
  rw [e, strictN_eq, strictN_eq, lenD_eq] at hp
  rcases hlt : Nat.blt (Nat.add s.n L.length) 65536 with _ | _
  · rw [hlt] at hp; exact hp.elim
  rw [hlt, ifB_true] at hp
  have hnn : s.n + L.length < 65536 := by rw [blt_eq, decide_eq_true_iff] at hlt; exact hlt
  rcases trf_of (fl := flsOf L s.n) (n0 := s.n) hL L 0 [] [] (fun _ => fr) (fun _ => .mk (hideH (flsOf L s.n) 0 s.h) (Nat.add s.n L.length)) rfl (by simp) ⟨fun j q hj => by omega, fun j q e p hj => by omega, fun j q e p hj => by omega⟩ (fun i q hi => by omega) (fun e he => by cases he) (fun e q he => by omega) with hbad | ⟨F', S, hF0, hS0, ht, hrun⟩
  · rw [hbad] at hp; exact hp.elim
  · rw [hrun] at hp
    refine wpIn_region_any hf ?_
    have hF0 : F' 0 = fr := hF0
    have hS0 : S 0 = .mk (hideH (flsOf L s.n) 0 s.h) (s.n + L.length) := hS0
    have hbit0 : ∀ j, bitN 0 j = false := fun j => by unfold bitN; show Nat.beq (0 / 2 ^ j % 2) 1 = false; rw [Nat.zero_div]; rfl
    have hget0 : ∀ b, Hp.get (S 0).h b = .no ∨ Hp.get (S 0).h b = Hp.get s.h b := fun b => by
      rw [hS0, St.h_mk, hideH_get (fls_lt hnn)]
      split
      · exact .inl rfl
      · exact .inr rfl
    have h0 : ∀ j, Flo L j → Hp.get (S 0).h (s.n + j) = .no := fun j hj => by
      rw [hS0, St.h_mk, hideH_get (fls_lt hnn), if_pos (hid_iff.2 ⟨j, hj, rfl, hbit0 j⟩)]
    have hrep : ∀ j, ¬ (Array.replicate ops.size false).getD j false = true := fun j => by
      rw [Array.getD_eq_getD_getElem?, Array.getElem?_replicate]
      split <;> simp
    -- the places, with room for the region's blocks
    obtain ⟨r1, hr1⟩ : ∃ r1 : Rho, r1 = { r with n := r.n + L.length } := ⟨_, rfl⟩
    have hle1 : r.Le r1 := by rw [hr1]; exact ⟨Nat.le_add_right _ _, fun b hb => ⟨hb, rfl, rfl, rfl⟩, fun _ _ => rfl, rfl⟩
    have hsd := hs.drew 1
    have hsim1 : Sim B0 r1 (S 0) (w.drewN 1) := by
      have h1 : Sim B0 r1 (.mk s.h (s.n + L.length)) (w.drewN 1) := by
        refine ⟨by rw [hr1, St.n_mk, hs.n], fun b hb => ?_, hsd.low, fun b => OkB.le (hsd.ok b) hle1 rfl, fun b b' hb hb' e => ?_, hsd.ety⟩
        · rw [hr1] at hb ⊢
          exact Nat.lt_of_lt_of_le (hs.lt b hb) (Nat.le_add_right _ _)
        · rw [hr1] at e
          exact hs.inj b b' hb hb' e
      refine h1.sub (by rw [hS0]; rfl) fun b => hget0 b
    have hstp1 : Stp r s w r1 (S 0) (w.drewN 1) := by
      refine ⟨hle1, rfl, rfl, rfl, Nat.le_refl _, fun _ _ _ => rfl, fun b hb => .inl (by rw [hr1] at hb; exact hb), fun b hb => .inl ⟨b, ?_, by rw [hr1]⟩⟩
      rcases hget0 b with e | e
      · rw [e] at hb; exact hb.elim
      · rw [← e]; exact hb
    refine df_any hk hnn h ht h0 hc hb hs.n.symm hs.lt (s0 := s) (w0 := w) (df := a.defers) (fun a' w' r' h1 h2 h3 h4 => hp a' w' r' h1 h2 h3 (by rw [h4]; exact hdf.stp h2)) _ _ _ _ 0 r1 (S 0) ?_ ?_
    · simp
    · refine ⟨by rw [Array.size_replicate]; exact h.len, Nat.zero_le _, fun j x hx hkx => ⟨fun hl => absurd hl (hrep j), fun hl => by omega⟩, ⟨rfl, fun _ _ => rfl, fun j hj hl => absurd hl (hrep j), fun j hj _ => h0 j hj⟩, fun j hj _ hh => ?_, ?_, hsim1, hstp1, fun j x hx hl => absurd hl (hrep j), hfr.size, rfl, fun p l v hno hv => ?_, fun j x p l v hx hxd hl => absurd hl (hrep j)⟩
      · rw [hr1] at hh
        have := hs.lt _ hh
        have := hs.n
        omega
      · rw [hr1, ← hs.n]; exact Nat.le_refl _
      · rw [hF0]; exact (hfr.get p l v hv).le hle1
end
/-- What one operation is asked, by itself. -/
noncomputable def ckK1 (P : Program) (NG N : Nat) (mt : Mt) (ops : Array Oper) (L : List DI) (j : Nat) (o : Oper) (q : DI) : Bool :=
  okG (ckJ P NG N mt) N ops o q.is && (dB o.dst q.ds && (eqD (dstI q.is) q.ds && (gdC q.is && ((Nat.ble 3 (kdN q.kd) || readI q.is) && ((!Nat.beq (kdN q.kd) 0 || pureI q.is) &&
  (Nat.blt q.ms (Nat.pow 2 j) && (o.after.toList.all (fun e => !Region.binds .any e || bitN q.ms e.on) &&
  (List.range j).all fun e => !bitN q.ms e || o.after.toList.any fun x => Region.binds .any x && (Nat.beq x.on e || (match L[x.on]? with | some p => bitN p.ms e | none => false)))))))))
noncomputable def ckDf (P : Program) (NG : Nat) (mt : Mt) (N : Nat) (ops : Array Oper) (L : List DI) : Bool :=
  allO (ckK1 P NG N mt ops L) 0 ops.toList L && allI (fun i p => allI (fun j q => ckD2 i j p q) 0 L) 0 L
theorem dfK_of {P : Program} {NG N : Nat} {mt : Mt} {ops : Array Oper} {L : List DI} (h : ckDf P NG mt N ops L = true) : DfK P NG N mt ops L := by
  simp only [ckDf, Bool.and_eq_true] at h
  obtain ⟨h1, h2⟩ := h
  obtain ⟨hlen, h1⟩ := allO_spec h1
  have h1 : ∀ j o q, ops[j]? = some o → L[j]? = some q → ckK1 P NG N mt ops L j o q = true := fun j o q ho hq => by
    have := h1 j o q (by simpa using ho) hq
    rwa [Nat.zero_add] at this
  have h2 : ∀ i j p q, L[i]? = some p → L[j]? = some q → ckD2 i j p q = true := fun i j p q hp hq => by
    have h3 := allI_spec h2 i p hp
    have h4 := allI_spec h3 j q hq
    rwa [Nat.zero_add, Nat.zero_add] at h4
  have hsz : ops.size = L.length := by simpa using hlen
  have ho : ∀ {j : Nat} {q : DI}, L[j]? = some q → ∃ o, ops[j]? = some o := fun {j q} hq => ⟨_, Array.getElem?_eq_getElem (by rw [hsz]; exact (List.getElem?_eq_some_iff.1 hq).1)⟩
  have hlow : ∀ (j : Nat) (q : DI), L[j]? = some q → ∀ e, bitN q.ms e = true → e < j := fun j q hq e he => by
    obtain ⟨o, ho⟩ := ho hq
    have := h1 j o q ho hq
    simp only [ckK1, Bool.and_eq_true] at this
    have h3 := this.2.2.2.2.2.2.1
    rw [blt_eq, decide_eq_true_iff] at h3
    exact bitN_lt h3 he
  refine ⟨hsz, fun j o q ho hq => ?_, hlow, fun j o q ho hq e he hb => ?_, fun j o q ho hq e he => ?_, fun i j p q hp hq hij hkp hkq => ?_, fun i j p q hp hq hij hkp hkq => ?_, fun i j p q hp hq hij hkp hkq => ?_, fun i j p q hp hq hij x y hpd hqd => ?_, fun i j p q hp hq x y hm hpd => ?_⟩
  · have := h1 j o q ho hq
    simp only [ckK1, Bool.and_eq_true, Bool.or_eq_true, Bool.not_eq_true'] at this
    obtain ⟨a1, a2, a3, a4, a5, a6, _⟩ := this
    refine ⟨a1, a2, eqD_eq a3, gdC_spec a4, fun hk => ?_, fun hk hk2 => ?_⟩
    · rcases a6 with a6 | a6
      · rw [kd_eq.2.2.2 hk] at a6; cases a6
      · exact a6
    · rcases a5 with a5 | a5
      · have := Nat.le_of_ble_eq_true a5
        cases e : q.kd <;> rw [e] at this hk hk2 <;> first | exact absurd rfl hk | exact absurd rfl hk2 | (simp only [kdN] at this; omega)
      · exact a5
  · have := h1 j o q ho hq
    simp only [ckK1, Bool.and_eq_true] at this
    have h3 := List.all_eq_true.1 this.2.2.2.2.2.2.2.1 e (Array.mem_toList_iff.2 he)
    rw [hb] at h3
    simpa using h3
  · have := h1 j o q ho hq
    simp only [ckK1, Bool.and_eq_true] at this
    have h3 := List.all_eq_true.1 this.2.2.2.2.2.2.2.2 e (List.mem_range.2 (hlow j q hq e he))
    rw [he] at h3
    simp only [Bool.not_true, Bool.false_or, List.any_eq_true, Bool.and_eq_true, Bool.or_eq_true] at h3
    obtain ⟨x, hx, hxb, hx2⟩ := h3
    refine ⟨x, Array.mem_toList_iff.1 hx, hxb, ?_⟩
    rcases hx2 with h4 | h4
    · exact .inl (Nat.eq_of_beq_eq_true h4)
    · split at h4
      · rename_i p hp; exact .inr ⟨p, hp, h4⟩
      · cases h4
  all_goals
    have := h2 i j p q hp hq
    simp only [ckD2, Bool.and_eq_true, Bool.or_eq_true, Bool.not_eq_true'] at this
    obtain ⟨b1, b2, b3⟩ := this
  · rcases b3 with b3 | b3 | b3
    · rw [blt_eq, decide_eq_false_iff_not] at b3; exact absurd hij b3
    · exact b3
    · exfalso
      rcases b3.1 with b4 | b4
      · rw [kd_eq.1.2 hkp] at b4; cases b4
      · rw [kd_eq.1.2 hkq] at b4; cases b4.1
  · rcases b3 with b3 | b3 | b3
    · rw [blt_eq, decide_eq_false_iff_not] at b3; exact absurd hij b3
    · exact b3
    · exfalso
      rcases b3.1 with b4 | b4
      · rw [kd_eq.1.2 hkp] at b4; cases b4
      · rw [kd_eq.2.1.2 hkq] at b4; cases b4.2
  · rcases b3 with b3 | b3 | b3
    · rw [blt_eq, decide_eq_false_iff_not] at b3; exact absurd hij b3
    · exact b3
    · exfalso
      rcases b3.2 with b4 | b4
      · rw [kd_eq.2.1.2 hkp] at b4; cases b4
      · rw [kd_eq.1.2 hkq] at b4; cases b4
  · rcases b1 with b1 | b1
    · exact hij (Nat.eq_of_beq_eq_true b1)
    · rw [hpd] at b1
      have b1 : eqO (some (slotN x y)) q.ds.sl = false := b1
      rw [eqO_sl.2 hqd] at b1
      cases b1
  · rcases b2 with b2 | b2 | b2
    · exact .inl b2
    · exact .inr b2
    · exfalso
      have := List.all_eq_true.1 b2 _ hm
      have h3 : eqO (some (slotN x y)) p.ds.sl = true := eqO_sl.2 hpd
      have h4 : (X.t x y).sl = some (slotN x y) := rfl
      rw [h4, h3] at this
      cases this
/-- The check of drawn regions. -/
noncomputable def ckDD (P : Program) (NG : Nat) (mt : Mt) (N : Nat) (ops : Array Oper) : C → Bool
  | .drw L => ckDr P NG mt N ops L || ckDb P NG mt N ops L
  | .drf L => ckDf P NG mt N ops L
  | _ => false
theorem snd_dd {P : Program} {NG : Env} {B0 : Nat} {mt : Mt} (hf : P.follows .mixedOrders = true) (hk : Kn P mt) : ∀ (E : Env) (ro : Option Nat) N id ops l, E.ng = NG.ng → ckDD P NG mt N ops l = true → CSnd P E B0 N (CAll P E B0) ro (.region id ops true) l := fun E ro N id ops l hE h => by
  rw [← hE] at h
  unfold ckDD at h
  split at h
  · rw [Bool.or_eq_true] at h
    rcases h with h | h
    · exact dr_wp hf hk (drOk_of h) id
    · exact snd_db hk h
  · exact df_wp hf hk (dfK_of h) id
  · cases h
end Go.Proofs.YtenpbpgoglepfaaGreatDoor
