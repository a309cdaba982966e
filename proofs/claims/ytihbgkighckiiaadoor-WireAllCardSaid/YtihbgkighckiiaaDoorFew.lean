/- tableaulaw04.few, tableaulaw00.Msg and SameMsg. No condition but that texts fit a machine's memory. -/
import Derived.Test.YtihbgkighckiiaaDoorGetC
import Derived.Test.YtihbgkighckiiaaDoorFeed
import Derived.Deep.RegionLaw
import Derived.Test.YtihbgkighckiiaaDoorRel
import Derived.Deep.QuietTactic
import Derived.BigQuiet
namespace Go.Proofs.YtihbgkighckiiaaDoor
open Go.RowKit
set_option maxRecDepth 100000

def FewOk (l : List ArgD) (sig : ByteArray) : Prop := l.length ≤ 30 ∧ sig.size ≤ 30 ∧ ∀ x ∈ l, x.2.2.size ≤ 6000
def FewPost (l : List ArgD) (sig : ByteArray) (w : World) (e : Ending) (w' : World) : Prop := ∃ b, e = .returned (.bool b) ∧ (b = true → FewOk l sig) ∧ Below w.heap.size w w'
/-- An argument's cells. -/
theorem arg_at {w : World} {A : Option Addr} {B : Nat} {l : List ArgD} (hx : 0 < l.length → ∃ b off, A = some ⟨b, off, none⟩ ∧ b < B ∧ ∀ j u, (argCells l)[j]? = some u → w.cell? ⟨b, off + j, none⟩ = some u) (i : Nat) (h : i < l.length) :
    ∃ b off, A = some ⟨b, off, none⟩ ∧ b < B ∧ w.cell? ⟨b, off + i * 3, none⟩ = some (.int .u8 l[i].1) ∧ w.cell? ⟨b, off + i * 3 + 1, none⟩ = some (.int .i64 l[i].2.1) ∧ w.cell? ⟨b, off + i * 3 + 2, none⟩ = some (.string l[i].2.2) := by
  obtain ⟨b, off, hA, hB, hx⟩ := hx (by omega)
  obtain ⟨h1, h2, h3⟩ := argCells_at l i h
  exact ⟨b, off, hA, hB, hx _ _ h1, by have := hx _ _ h2; rwa [← Nat.add_assoc] at this, by have := hx _ _ h3; rwa [← Nat.add_assoc] at this⟩
set_option maxHeartbeats 1600000 in
theorem few_any (o p : Int) (v : Value) (l : List ArgD) (sig : ByteArray) (w : World) (hv : ArgsIs w v l) :
    Calls Tryd.prog 21 #[.agg #[.int .i64 o, .int .i64 p, v], .string sig] w (FewPost l sig w) := by
  obtain ⟨_, Ad, c, rfl, hc, hm, _, hx⟩ := hv
  have HX := Lib.hid (arg_at hx)
  obtain ⟨n, hn⟩ : ∃ n, n = l.length := ⟨_, rfl⟩
  rw [← hn] at hc ⊢
  have HN := Lib.hid hn
  unfold maxLen at hm
  have hb1 : Below w.heap.size w (w.alloc (.cells #[.int .i64 o, .int .i64 p, .slice Ad n c] 29)) := (Below.refl _ _).alloc (Nat.le_refl _) _
  have hk1 : Blk (w.alloc (.cells #[.int .i64 o, .int .i64 p, .slice Ad n c] 29)) w.heap.size 29 #[.int .i64 o, .int .i64 p, .slice Ad n c] := Blk.new _ _ _
  have HB1 := Lib.hid hb1
  have HK1 := Lib.hid hk1
  clear hx hn hb1 hk1
  go_enter Tryd.func21, Tryd.ntmps21
  go_upto_region 1 with (fail)
  obtain ⟨g, hg⟩ : ∃ g, g = w.heap.size := ⟨_, rfl⟩
  rw [← hg] at HK1 ⊢
  clear hg
  generalize w.alloc (.cells #[.int .i64 o, .int .i64 p, .slice Ad n c] 29) = w1 at HB1 HK1 ⊢
  have c2 : w1.cell? ⟨g, 2, none⟩ = some (.slice Ad n c) := HK1.out.cell 2
  go_wp2_with fail
  go_loop [5] (fun i => ∃ k : Nat, k ≤ n ∧ k ≤ 30 ∧ i = .int .i64 k ∧ ∀ j (h : j < l.length), j < k → (l[j]).2.2.size ≤ 6000) (fun i => 30 - (intOf i).toNat)
  case atStart => exact ⟨0, Nat.zero_le _, by omega, rfl, fun j h hj => absurd hj (Nat.not_lt_zero _)⟩
  case round =>
    obtain ⟨k, hk1, hk2, rfl, hall⟩ := hrel
    have HALL := Lib.hid hall
    clear hall
    by_cases h1 : k < n
    · by_cases h2 : k < 30
      · obtain ⟨b, off, hA, hB, x0, x1, x2⟩ := HX.out k (by have := HN.out; omega)
        subst hA
        obtain ⟨s, hs⟩ : ∃ s, s = (l[k]'(by have := HN.out; omega)).2.2 := ⟨_, rfl⟩
        rw [← hs] at x2
        have HS := Lib.hid hs
        have d2 : w1.cell? ⟨b, off + k * 3 + 2, none⟩ = some (.string s) := (HB1.out.cell (p := ⟨b, off + k * 3 + 2, none⟩) hB).trans x2
        clear x0 x1 x2 hs
        by_cases h3 : 6000 < s.size
        · have e3 : decide (6000 < (s.size : Int)) = true := by simp; omega
          go_wp2_with fail
          go_ret
          exact ⟨false, rfl, (fun h => by cases h), HB1.out⟩
        · have e3 : decide (6000 < (s.size : Int)) = false := by simp; omega
          have HS3 : Hid (s.size ≤ 6000) := by show _ ≤ _; omega
          go_wp2_with fail
          go_round
          case rel => exact ⟨k + 1, by omega, by omega, by go_num, fun j h hj => by
            by_cases hjk : j = k
            · subst hjk; rw [← HS.out]; exact HS3.out
            · exact HALL.out j h (by omega)⟩
          case measure => simp [intOf]; omega
      · have hnn : 30 < n ∨ n = 30 := by omega
        have e5 : decide ((n : Int) ≤ 30) = false := by simp; omega
        go_wp2_with fail
        go_ret
        exact ⟨false, rfl, (fun h => by cases h), HB1.out⟩
    · obtain rfl : k = n := by omega
      have e5 : decide ((k : Int) ≤ 30) = true := by simp; omega
      have hfew : Hid (decide ((sig.size : Int) ≤ 30) = true → FewOk l sig) := fun h => ⟨by have := HN.out; omega, by simp at h; omega, fun x hx => by
        obtain ⟨j, hj, rfl⟩ := List.mem_iff_getElem.1 hx
        exact HALL.out j hj (by have := HN.out; omega)⟩
      go_wp2_with fail
      go_ret
      exact ⟨decide ((sig.size : Int) ≤ 30), rfl, hfew.out, HB1.out⟩
set_option maxHeartbeats 1600000 in
theorem same_msg (o p : Int) (va vb : Value) (l : List ArgD) (w : World) (ha : ArgsIs w va l) (hb : ArgsIs w vb l) :
    Calls Tryd.prog 29 #[.agg #[.int .i64 o, .int .i64 p, va], .agg #[.int .i64 o, .int .i64 p, vb]] w fun e w' => e = .returned (.bool true) ∧ Below w.heap.size w w' := by
  obtain ⟨_, Aa, ca, rfl, hca, hma, _, hxa⟩ := ha
  obtain ⟨_, Ab, cb, rfl, hcb, hmb, _, hxb⟩ := hb
  have HA := Lib.hid (arg_at hxa)
  have HB := Lib.hid (arg_at hxb)
  clear hxa hxb
  obtain ⟨n, hn⟩ : ∃ n, n = l.length := ⟨_, rfl⟩
  rw [← hn] at hca hcb ⊢
  have HN := Lib.hid hn
  unfold maxLen at hma hmb
  clear hn
  have hb1 : Below w.heap.size w ((w.alloc (.cells #[.int .i64 o, .int .i64 p, .slice Aa n ca] 29)).alloc (.cells #[.int .i64 o, .int .i64 p, .slice Ab n cb] 29)) := ((Below.refl _ _).alloc (Nat.le_refl _) _).alloc (by simp) _
  have hk1 : Blk ((w.alloc (.cells #[.int .i64 o, .int .i64 p, .slice Aa n ca] 29)).alloc (.cells #[.int .i64 o, .int .i64 p, .slice Ab n cb] 29)) w.heap.size 29 #[.int .i64 o, .int .i64 p, .slice Aa n ca] := (Blk.new _ _ _).alloc _
  have hk2 : Blk ((w.alloc (.cells #[.int .i64 o, .int .i64 p, .slice Aa n ca] 29)).alloc (.cells #[.int .i64 o, .int .i64 p, .slice Ab n cb] 29)) (w.heap.size + 1) 29 #[.int .i64 o, .int .i64 p, .slice Ab n cb] := by
    have := Blk.new (w.alloc (.cells #[.int .i64 o, .int .i64 p, .slice Aa n ca] 29)) 29 #[.int .i64 o, .int .i64 p, .slice Ab n cb]
    rwa [World.size_alloc] at this
  have HB1 := Lib.hid hb1
  have HK1 := Lib.hid hk1
  have HK2 := Lib.hid hk2
  clear hb1 hk1 hk2
  go_enter Tryd.func29, Tryd.ntmps29
  go_upto_region 1 with (fail)
  obtain ⟨g, hg⟩ : ∃ g, g = w.heap.size := ⟨_, rfl⟩
  rw [← hg] at HK1 HK2 ⊢
  clear hg
  generalize (w.alloc (.cells #[.int .i64 o, .int .i64 p, .slice Aa n ca] 29)).alloc (.cells #[.int .i64 o, .int .i64 p, .slice Ab n cb] 29) = w1 at HB1 HK1 HK2 ⊢
  have c0 : w1.cell? ⟨g, 0, none⟩ = some (.int .i64 o) := HK1.out.cell 0
  have c1 : w1.cell? ⟨g, 1, none⟩ = some (.int .i64 p) := HK1.out.cell 1
  have c2 : w1.cell? ⟨g, 2, none⟩ = some (.slice Aa n ca) := HK1.out.cell 2
  have e0 : w1.cell? ⟨g + 1, 0, none⟩ = some (.int .i64 o) := HK2.out.cell 0
  have e1 : w1.cell? ⟨g + 1, 1, none⟩ = some (.int .i64 p) := HK2.out.cell 1
  have e2 : w1.cell? ⟨g + 1, 2, none⟩ = some (.slice Ab n cb) := HK2.out.cell 2
  go_wp2_with fail
  go_loopw [5] (fun a wr => ∃ i : Nat, i ≤ n ∧ a = .int .i64 i ∧ ∃ k, wr = w1.drewN k) (fun a _ => n - (intOf a).toNat)
  case atStart => exact ⟨0, by omega, rfl, 0, rfl⟩
  case round =>
    obtain ⟨i, hi, rfl, q, rfl⟩ := hrel
    by_cases hlt : i < n
    · obtain ⟨ba, oa, hA, hba, a0, a1, a2⟩ := HA.out i (by have := HN.out; omega)
      subst hA
      obtain ⟨bb, ob, hB, hbb, b0, b1, b2⟩ := HB.out i (by have := HN.out; omega)
      subst hB
      have x0 := (HB1.out.cell (p := ⟨ba, oa + i * 3, none⟩) hba).trans a0
      have x1 := (HB1.out.cell (p := ⟨ba, oa + i * 3 + 1, none⟩) hba).trans a1
      have x2 := (HB1.out.cell (p := ⟨ba, oa + i * 3 + 2, none⟩) hba).trans a2
      have y0 := (HB1.out.cell (p := ⟨bb, ob + i * 3, none⟩) hbb).trans b0
      have y1 := (HB1.out.cell (p := ⟨bb, ob + i * 3 + 1, none⟩) hbb).trans b1
      have y2 := (HB1.out.cell (p := ⟨bb, ob + i * 3 + 2, none⟩) hbb).trans b2
      clear a0 a1 a2 b0 b1 b2
      go_wp2_with fail
      go_quiet (fail)
      all_goals go_wp2
      all_goals go_roundw
      case rel => exact ⟨i + 1, by omega, by go_num, _, rfl⟩
      case measure => simp [intOf]; omega
    · obtain rfl : i = n := by omega
      go_wp2_with fail
      go_ret
      exact ⟨rfl, below_drewN HB1.out q⟩
/-- What stands in memory beside the copy. -/
def MsC (w : World) (g : Nat) (o p : Int) (va : Value) (wr : World) : Prop := Below w.heap.size w wr ∧ Blk wr g 29 #[.int .i64 o, .int .i64 p, va] ∧ ∃ a b c, Blk wr (g + 1) 29 #[a, b, c]
def MsR (w : World) (g n : Nat) (o p : Int) (va : Value) (l : List ArgD) (i : Nat) (v : Value) (wr : World) : Prop :=
  match i with
  | 0 => v = .pointer (some ⟨g, 0, none⟩)
  | 1 => v = .int .i64 o
  | 2 => v = .pointer (some ⟨g, 1, none⟩)
  | 3 => v = .int .i64 p
  | 4 => v = .pointer (some ⟨g, 2, none⟩)
  | 5 => v = va
  | 6 => wr.ownsRow w.heap.size 26 3 v n (argCells l)
  | 7 => ∃ v', v = .agg #[.int .i64 o, .int .i64 p, v'] ∧ wr.ownsRow w.heap.size 26 3 v' n (argCells l)
  | _ => ∃ v', Blk wr (g + 1) 29 #[.int .i64 o, .int .i64 p, v'] ∧ wr.ownsRow w.heap.size 26 3 v' n (argCells l)
theorem ms_below {w wx w' : World} {g n : Nat} {o p : Int} {va : Value} {l : List ArgD} (hb : Below wx.heap.size wx w') (j : Nat) (u : Value) (h : MsR w g n o p va l j u wx) : MsR w g n o p va l j u w' := by
  have ho : ∀ {u : Value}, wx.ownsRow w.heap.size 26 3 u n (argCells l) → w'.ownsRow w.heap.size 26 3 u n (argCells l) := fun h => h.kept (only_of_below hb none) (Classical.em _)
  unfold MsR at h ⊢
  split at h
  case h_1 | h_2 | h_3 | h_4 | h_5 | h_6 => exact h
  case h_7 => exact ho h
  case h_8 => obtain ⟨v', h1, h2⟩ := h; exact ⟨v', h1, ho h2⟩
  case h_9 => obtain ⟨v', h1, h2⟩ := h; exact ⟨v', h1.below hb h1.lt, ho h2⟩
theorem own_apart_blk {w w' : World} {b1 n1 s1 g : Nat} {T1 T2 : TypeId} {v1 : Value} {xs1 : List Value} {cs : Array Value} (h1 : w.ownsRow b1 T1 s1 v1 n1 xs1) (h2 : Blk w g T2 cs) (hT : T1 ≠ T2) (hg : w.grownBy w' (some g)) : w'.ownsRow b1 T1 s1 v1 n1 xs1 := by
  refine h1.kept hg (.inr fun h => ?_)
  rcases h1.2 with ⟨rfl, _⟩ | ⟨g1, c1, cur1, rfl, _, hg1, _⟩
  · simp [Value.ownBlock] at h
  · simp only [Value.ownBlock, Option.some.injEq] at h
    subst h
    unfold Blk at h2
    rw [hg1] at h2
    injection h2 with h2
    injection h2 with _ h2
    exact hT h2
theorem ms_store {w wx : World} {g n : Nat} {o p : Int} {va v' a b c : Value} {l : List ArgD} (hk : Blk wx (g + 1) 29 #[a, b, c]) (hv : wx.ownsRow w.heap.size 26 3 v' n (argCells l)) (hC : MsC w g o p va wx) (hg : w.heap.size ≤ g) :
    MsC w g o p va (((wx.setCell ⟨g + 1, 0, none⟩ (.int .i64 o)).setCell ⟨g + 1, 1, none⟩ (.int .i64 p)).setCell ⟨g + 1, 2, none⟩ v') ∧ MsR w g n o p va l 8 undef (((wx.setCell ⟨g + 1, 0, none⟩ (.int .i64 o)).setCell ⟨g + 1, 1, none⟩ (.int .i64 p)).setCell ⟨g + 1, 2, none⟩ v') ∧
      ∀ j u, MsR w g n o p va l j u wx → MsR w g n o p va l j u (((wx.setCell ⟨g + 1, 0, none⟩ (.int .i64 o)).setCell ⟨g + 1, 1, none⟩ (.int .i64 p)).setCell ⟨g + 1, 2, none⟩ v') := by
  have hst := only_set (only_set (only_set (only_refl wx (some (g + 1))) 0 (.int .i64 o)) 1 (.int .i64 p)) 2 v'
  have hk' := ((hk.set_ 0 (.int .i64 o)).set_ 1 (.int .i64 p)).set_ 2 v'
  have ho : ∀ {u : Value}, wx.ownsRow w.heap.size 26 3 u n (argCells l) → (((wx.setCell ⟨g + 1, 0, none⟩ (.int .i64 o)).setCell ⟨g + 1, 1, none⟩ (.int .i64 p)).setCell ⟨g + 1, 2, none⟩ v').ownsRow w.heap.size 26 3 u n (argCells l) := fun h => own_apart_blk h hk (by decide) hst
  refine ⟨⟨below_of_only hC.1 hst hC.1.size (by omega), hC.2.1.grown hst (by simp), _, _, _, hk'⟩, ⟨v', hk', ho hv⟩, fun j u h => ?_⟩
  unfold MsR at h ⊢
  split at h
  case h_1 | h_2 | h_3 | h_4 | h_5 | h_6 => exact h
  case h_7 => exact ho h
  case h_8 => obtain ⟨v2, h1, h2⟩ := h; exact ⟨v2, h1, ho h2⟩
  case h_9 => obtain ⟨v2, h1, h2⟩ := h; exact ⟨v', hk', ho hv⟩
def MsgPost (o p : Int) (l : List ArgD) (w : World) (e : Ending) (w' : World) : Prop := ∃ v', e = .returned (.agg #[.int .i64 o, .int .i64 p, v']) ∧ ArgsIs w' v' l ∧ Below w.heap.size w w'
theorem arg_one (l : List ArgD) : ∀ u ∈ argCells l, u.oneCell' = true := by
  intro u hu
  simp only [argCells, List.mem_flatMap] at hu
  obtain ⟨x, _, hx⟩ := hu
  simp at hx
  rcases hx with rfl | rfl | rfl <;> rfl
theorem msg_app {w : World} {A : Option Addr} {n c : Nat} {l : List ArgD} (ty : TypeId) (h : SlN w w.heap.size 3 (.slice A n c) n (argCells l)) (hn : n ≤ 100000) :
    ∃ v' w', (Builtin.append_ #[27, 27] ty #[.slice none 0 0, .slice A n c]).run Tryd.prog w = .ok v' w' ∧ Hid (w'.ownsRow w.heap.size 26 3 v' n (argCells l) ∧ Below w.heap.size w w') := by
  obtain ⟨i, hi, hz, hs, hby⟩ := info_parts Tryd.infoArgG
  obtain ⟨hl, A', c', hv, hc, hm, h0, hx⟩ := h
  injection hv with e1 e2 e3
  subst e1; subst e3
  rcases Nat.eq_zero_or_pos n with rfl | hp
  · have hy : argCells l = [] := List.eq_nil_of_length_eq_zero (by omega)
    refine ⟨.slice none 0 0, w, ?_, by rw [hy]; exact World.ownsRow_nil _ _ _ _, Below.refl _ _⟩
    rcases A with _ | a
    · simp [Builtin.append_, run_underlying Tryd.underlying27, sizeOf, typeInfo, hi, Builtin.lenOf, Builtin.firstCells]
    · simp [Builtin.append_, run_underlying Tryd.underlying27, sizeOf, typeInfo, hi, Builtin.lenOf, Builtin.firstCells, loadCells, loadCellsFrom]
  · obtain ⟨b, off, rfl, hb, hx⟩ := hx hp
    obtain ⟨v', w', hr, h2, h3, _⟩ := run_append_own (P := Tryd.prog) (w := w) w.heap.size 27 ty 26 i _ 3 32 Tryd.underlying27 hi hz hs hby rfl (by decide) (.slice none 0 0) 0 [] (World.ownsRow_nil _ _ _ _) ⟨b, off, none⟩ n c (argCells l) hl
      (fun j u hu => by rw [add_of_lit]; exact hx j u hu) (arg_one l) (by unfold maxLen; omega) (by omega) (Nat.le_refl _)
    rw [Nat.zero_add, List.nil_append] at h2
    exact ⟨v', w', hr, h2, (Below.refl _ _).grown h3 (Nat.le_refl _) (fun b hb => by simp [Value.ownBlock] at hb)⟩
set_option maxHeartbeats 3200000 in
theorem msg_any (o p : Int) (v : Value) (l : List ArgD) (w : World) (hv : ArgsIs w v l) (hl : l.length ≤ 1000) :
    Calls Tryd.prog 22 #[.agg #[.int .i64 o, .int .i64 p, v]] w (MsgPost o p l w) := by
  have HV := Lib.hid hv
  obtain ⟨_, Ad, c, rfl, hc, hm, _, hx⟩ := hv
  obtain ⟨n, hn⟩ : ∃ n, n = l.length := ⟨_, rfl⟩
  rw [← hn] at hc hl HV ⊢
  have HN := Lib.hid hn
  unfold maxLen at hm
  have hb1 : Below w.heap.size w ((w.alloc (.cells #[.int .i64 o, .int .i64 p, .slice Ad n c] 29)).alloc (.cells #[.int .i64 0, .int .i64 0, .slice none 0 0] 29)) := ((Below.refl _ _).alloc (Nat.le_refl _) _).alloc (by simp) _
  have hk1 : Blk ((w.alloc (.cells #[.int .i64 o, .int .i64 p, .slice Ad n c] 29)).alloc (.cells #[.int .i64 0, .int .i64 0, .slice none 0 0] 29)) w.heap.size 29 #[.int .i64 o, .int .i64 p, .slice Ad n c] := (Blk.new _ _ _).alloc _
  have hk2 : Blk ((w.alloc (.cells #[.int .i64 o, .int .i64 p, .slice Ad n c] 29)).alloc (.cells #[.int .i64 0, .int .i64 0, .slice none 0 0] 29)) (w.heap.size + 1) 29 #[.int .i64 0, .int .i64 0, .slice none 0 0] := by
    have := Blk.new (w.alloc (.cells #[.int .i64 o, .int .i64 p, .slice Ad n c] 29)) 29 #[.int .i64 0, .int .i64 0, .slice none 0 0]
    rwa [World.size_alloc] at this
  have HB1 := Lib.hid hb1
  have HK1 := Lib.hid hk1
  have HK2 := Lib.hid hk2
  clear hx hn hb1 hk1 hk2
  go_enter Tryd.func22, Tryd.ntmps22
  go_upto_region 1 with (fail)
  obtain ⟨g, hg⟩ : ∃ g, g = w.heap.size := ⟨_, rfl⟩
  rw [← hg] at HK1 HK2 ⊢
  have HG := Lib.hid hg
  clear hg
  generalize (w.alloc (.cells #[.int .i64 o, .int .i64 p, .slice Ad n c] 29)).alloc (.cells #[.int .i64 0, .int .i64 0, .slice none 0 0] 29) = w1 at HB1 HK1 HK2 ⊢
  refine wp_region_rel (MsC w g o p (.slice Ad n c)) (MsR w g n o p (.slice Ad n c) l) (by kernel_rfl) (by kernel_rfl) (by kernel_rfl) ⟨below_drewN HB1.out 1, HK1.out, _, _, _, HK2.out⟩ ?_ ?_
  · refine allSteps_cons ?_ (allSteps_cons ?_ (allSteps_cons ?_ (allSteps_cons ?_ (allSteps_cons ?_ (allSteps_cons ?_ (allSteps_cons ?_ (allSteps_cons ?_ (allSteps_cons ?_ (allSteps_nil)))))))))
    · intro a wx hC hE hD
      have e : a.eval (.tmp 1) = .pointer (some ⟨g, 0, none⟩) := hE 1 (by kernel_rfl)
      refine rel_value (v := .pointer (some ⟨g, 0, none⟩)) rfl rfl ?_ hC rfl (fun _ _ h => h)
      generalize a.eval = ρ at e ⊢
      simp [execOp, go_sem, e]
    · intro a wx hC hE hD
      obtain ⟨v0, e, hR0⟩ := rel_dep (d := 3) rfl (hD 0 _ rfl (by kernel_rfl))
      have hR0' : v0 = .pointer (some ⟨g, 0, none⟩) := hR0
      subst hR0'
      clear hR0
      have hc := hC.2.1.cell 0
      have hc' : wx.cell? ⟨g, 0, none⟩ = some (.int .i64 o) := hc
      refine rel_value (v := .int .i64 o) rfl rfl ?_ hC rfl (fun _ _ h => h)
      generalize a.eval = ρ at e ⊢
      simp [execOp, go_sem, e, hc']
    · intro a wx hC hE hD
      have e : a.eval (.tmp 1) = .pointer (some ⟨g, 0, none⟩) := hE 1 (by kernel_rfl)
      refine rel_value (v := .pointer (some ⟨g, 1, none⟩)) rfl rfl ?_ hC rfl (fun _ _ h => h)
      generalize a.eval = ρ at e ⊢
      simp [execOp, go_sem, e]
    · intro a wx hC hE hD
      obtain ⟨v2, e, hR2⟩ := rel_dep (d := 5) rfl (hD 2 _ rfl (by kernel_rfl))
      have hR2' : v2 = .pointer (some ⟨g, 1, none⟩) := hR2
      subst hR2'
      clear hR2
      have hc' : wx.cell? ⟨g, 1, none⟩ = some (.int .i64 p) := hC.2.1.cell 1
      refine rel_value (v := .int .i64 p) rfl rfl ?_ hC rfl (fun _ _ h => h)
      generalize a.eval = ρ at e ⊢
      simp [execOp, go_sem, e, hc']
    · intro a wx hC hE hD
      have e : a.eval (.tmp 1) = .pointer (some ⟨g, 0, none⟩) := hE 1 (by kernel_rfl)
      refine rel_value (v := .pointer (some ⟨g, 2, none⟩)) rfl rfl ?_ hC rfl (fun _ _ h => h)
      generalize a.eval = ρ at e ⊢
      simp [execOp, go_sem, e]
    · intro a wx hC hE hD
      obtain ⟨v4, e, hR4⟩ := rel_dep (d := 7) rfl (hD 4 _ rfl (by kernel_rfl))
      have hR4' : v4 = .pointer (some ⟨g, 2, none⟩) := hR4
      subst hR4'
      clear hR4
      have hc' : wx.cell? ⟨g, 2, none⟩ = some (.slice Ad n c) := hC.2.1.cell 2
      refine rel_value (v := .slice Ad n c) rfl rfl ?_ hC rfl (fun _ _ h => h)
      generalize a.eval = ρ at e ⊢
      simp [execOp, go_sem, e, hc']
    · intro a wx hC hE hD
      obtain ⟨v5, e, hR5⟩ := rel_dep (d := 8) rfl (hD 5 _ rfl (by kernel_rfl))
      have hR5' : v5 = .slice Ad n c := hR5
      subst hR5'
      clear hR5
      have hsl : SlN wx wx.heap.size 3 (.slice Ad n c) n (argCells l) := (SlN.below (show SlN w w.heap.size 3 (.slice Ad n c) n (argCells l) from by have := HV.out; unfold ArgsIs at this; rw [← HN.out] at this; exact this) hC.1).more hC.1.size
      obtain ⟨v', w', hr, hR⟩ := msg_app 27 hsl (by omega)
      exact rel_value rfl rfl (exec_app (v1 := .slice none 0 0) rfl rfl e hr) ⟨hC.1.trans (hR.out.2.mono hC.1.size), hC.2.1.below hR.out.2 hC.2.1.lt, by obtain ⟨a, b, c, hk⟩ := hC.2.2; exact ⟨a, b, c, hk.below hR.out.2 hk.lt⟩⟩ (own_low hR.out.1 hC.1.size) (ms_below hR.out.2)
    · intro a wx hC hE hD
      obtain ⟨v1, e1, hR1⟩ := rel_dep (d := 4) rfl (hD 1 _ rfl (by kernel_rfl))
      have hR1' : v1 = .int .i64 o := hR1
      subst hR1'
      clear hR1
      obtain ⟨v3, e3, hR3⟩ := rel_dep (d := 6) rfl (hD 3 _ rfl (by kernel_rfl))
      have hR3' : v3 = .int .i64 p := hR3
      subst hR3'
      clear hR3
      obtain ⟨v6, e6, hR6⟩ := rel_dep (d := 9) rfl (hD 6 _ rfl (by kernel_rfl))
      have hQ6 : wx.ownsRow w.heap.size 26 3 v6 n (argCells l) := hR6
      clear hR6
      refine rel_value (v := .agg #[.int .i64 o, .int .i64 p, v6]) rfl rfl ?_ hC ⟨_, rfl, hQ6⟩ (fun _ _ h => h)
      obtain ⟨A6, c6, rfl⟩ := own_slice' hQ6
      generalize a.eval = ρ at e1 e3 e6 ⊢
      simp [execOp, go_sem, e1, e3, e6]
    · intro a wx hC hE hD
      have e2 : a.eval (.tmp 2) = .pointer (some ⟨g + 1, 0, none⟩) := hE 2 (by kernel_rfl)
      obtain ⟨v7, e7, hR7⟩ := rel_dep (d := 10) rfl (hD 7 _ rfl (by kernel_rfl))
      obtain ⟨v', hv7, hown⟩ : ∃ v', v7 = .agg #[.int .i64 o, .int .i64 p, v'] ∧ wx.ownsRow w.heap.size 26 3 v' n (argCells l) := hR7
      subst hv7
      obtain ⟨x0, x1, x2, hk⟩ := hC.2.2
      obtain ⟨q1, q2, q3⟩ := ms_store hk hown hC (by have := HG.out; omega)
      have k0 : wx.cell? ⟨g + 1, 0, none⟩ = some x0 := hk.cell 0
      have k1 : wx.cell? ⟨g + 1, 1, none⟩ = some x1 := hk.cell 1
      have k2 : wx.cell? ⟨g + 1, 2, none⟩ = some x2 := hk.cell 2
      have f0 : wx.frozen? ⟨g + 1, 0, none⟩ = false := hk.frozen 0
      have f1 : wx.frozen? ⟨g + 1, 1, none⟩ = false := hk.frozen 1
      have f2 : wx.frozen? ⟨g + 1, 2, none⟩ = false := hk.frozen 2
      refine rel_skip rfl rfl ?_ q1 q2 q3
      obtain ⟨A6, c6, rfl⟩ := own_slice' hown
      generalize a.eval = ρ at e2 e7 ⊢
      simp [execOp, go_sem, e2, e7, k0, k1, k2, f0, f1, f2]
  · intro vs w' hC hV
    obtain ⟨_, _, _, _, _, _, _, _, h8, _⟩ := hV
    obtain ⟨v', hk, hown⟩ : ∃ v', Blk w' (g + 1) 29 #[.int .i64 o, .int .i64 p, v'] ∧ w'.ownsRow w.heap.size 26 3 v' n (argCells l) := h8
    have k0 : w'.cell? ⟨g + 1, 0, none⟩ = some (.int .i64 o) := hk.cell 0
    have k1 : w'.cell? ⟨g + 1, 1, none⟩ = some (.int .i64 p) := hk.cell 1
    have k2 : w'.cell? ⟨g + 1, 2, none⟩ = some v' := hk.cell 2
    have HC1 := Lib.hid hC.1
    have HOW := Lib.hid hown
    obtain ⟨A6, c6, rfl⟩ := own_slice' hown
    simp only [putAll, Act.put, List.setIfInBounds_toArray, List.set_cons_zero, List.set_cons_succ, Nat.zero_add, Nat.reduceAdd]
    generalize vs 0 = v0, vs 1 = v1, vs 2 = v2, vs 3 = v3, vs 4 = v4, vs 5 = v5, vs 6 = v6, vs 7 = v7
    clear hC hown hk
    go_wp2_with fail
    refine bodyPost_ret (v := .agg #[.int .i64 o, .int .i64 p, .slice A6 n c6]) (by simp [results, Tryd.results22, go_sem, *]) rfl ?_
    exact ⟨_, rfl, by unfold ArgsIs; rw [← HN.out]; exact SlN.of_own HOW.out, HC1.out⟩
end Go.Proofs.YtihbgkighckiiaaDoor
