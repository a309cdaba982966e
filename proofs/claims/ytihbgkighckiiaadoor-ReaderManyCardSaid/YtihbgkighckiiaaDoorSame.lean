/- tableaulaw05.same: of the same messages it is true. No condition. -/
import Derived.Test.YtihbgkighckiiaaDoorFeed
import Derived.Outline
namespace Go.Proofs.YtihbgkighckiiaaDoor
open Go.RowKit
set_option maxRecDepth 100000

theorem rawCells_at (l : List RawD) : ∀ (k : Nat) (h : k < l.length), (rawCells l)[k * 3]? = some (.int .i64 l[k].1) ∧ (rawCells l)[k * 3 + 1]? = some (.int .i64 l[k].2.1) ∧ (rawCells l)[k * 3 + 2]? = some (.string l[k].2.2) := by
  induction l with
  | nil => intro k h; simp at h
  | cons x l ih =>
    intro k h
    have e : rawCells (x :: l) = [.int .i64 x.1, .int .i64 x.2.1, .string x.2.2] ++ rawCells l := by simp [rawCells]
    rcases k with _ | k
    · exact ⟨rfl, rfl, rfl⟩
    · obtain ⟨h1, h2, h3⟩ := ih k (by simpa using h)
      rw [e]
      have e1 : (k + 1) * 3 = k * 3 + 3 := by omega
      rw [e1]
      refine ⟨?_, ?_, ?_⟩
      · rw [List.getElem?_append_right (by simp)]; simpa using h1
      · rw [List.getElem?_append_right (by simp)]; simpa using h2
      · rw [List.getElem?_append_right (by simp)]; simpa using h3
theorem raw_at {w : World} {A : Option Addr} {B : Nat} {l : List RawD} (hx : 0 < l.length → ∃ b off, A = some ⟨b, off, none⟩ ∧ b < B ∧ ∀ j u, (rawCells l)[j]? = some u → w.cell? ⟨b, off + j, none⟩ = some u) (i : Nat) (h : i < l.length) :
    ∃ b off, A = some ⟨b, off, none⟩ ∧ b < B ∧ w.cell? ⟨b, off + i * 3, none⟩ = some (.int .i64 l[i].1) ∧ w.cell? ⟨b, off + i * 3 + 1, none⟩ = some (.int .i64 l[i].2.1) ∧ w.cell? ⟨b, off + i * 3 + 2, none⟩ = some (.string l[i].2.2) := by
  obtain ⟨b, off, hA, hB, hx⟩ := hx (by omega)
  obtain ⟨h1, h2, h3⟩ := rawCells_at l i h
  exact ⟨b, off, hA, hB, hx _ _ h1, by have := hx _ _ h2; rwa [← Nat.add_assoc] at this, by have := hx _ _ h3; rwa [← Nat.add_assoc] at this⟩
set_option maxHeartbeats 1600000 in
theorem same_any (va vb : Value) (l : List RawD) (w : World) (ha : SlN w w.heap.size 3 va l.length (rawCells l)) (hb : SlN w w.heap.size 3 vb l.length (rawCells l)) :
    Calls Tryd.prog 35 #[va, vb] w fun e w' => e = .returned (.bool true) ∧ ∃ k, w' = w.drewN k := by
  obtain ⟨_, Aa, ca, rfl, hca, hma, _, hxa⟩ := ha
  obtain ⟨_, Ab, cb, rfl, hcb, hmb, _, hxb⟩ := hb
  have HA := Lib.hid (raw_at hxa)
  have HB := Lib.hid (raw_at hxb)
  clear hxa hxb
  obtain ⟨n, hn⟩ : ∃ n, n = l.length := ⟨_, rfl⟩
  rw [← hn] at hca hcb ⊢
  have HN := Lib.hid hn
  unfold maxLen at hma hmb
  clear hn
  go_enter Tryd.func35, Tryd.ntmps35
  go_wp2_with fail
  go_loopw [5] (fun a wr => ∃ i : Nat, i ≤ n ∧ a = .int .i64 i ∧ ∃ k, wr = w.drewN k) (fun a _ => n - (intOf a).toNat)
  case atStart => exact ⟨0, by omega, rfl, 0, rfl⟩
  case round =>
    obtain ⟨i, hi, rfl, q, rfl⟩ := hrel
    by_cases hlt : i < n
    · obtain ⟨ba, oa, hA, _, a0, a1, a2⟩ := HA.out i (by have := HN.out; omega)
      subst hA
      obtain ⟨bb, ob, hB, _, b0, b1, b2⟩ := HB.out i (by have := HN.out; omega)
      subst hB
      go_wp2_with fail
      go_quiet (fail)
      all_goals go_wp2
      all_goals go_roundw
      case rel => exact ⟨i + 1, by omega, by go_num, _, rfl⟩
      case measure => simp [intOf]; omega
    · obtain rfl : i = n := by omega
      go_wp2_with fail
      go_ret
      exact ⟨rfl, q, rfl⟩
end Go.Proofs.YtihbgkighckiiaaDoor
