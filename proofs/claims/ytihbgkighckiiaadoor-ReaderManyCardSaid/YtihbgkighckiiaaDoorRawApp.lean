/- append of messages onto messages of the call's own. No condition but that they fit. -/
import Derived.Test.YtihbgkighckiiaaDoorSame
import Derived.Laws.OwnMore
namespace Go.Proofs.YtihbgkighckiiaaDoor
open Go.RowKit
set_option maxRecDepth 100000

theorem raw_one (l : List RawD) : ∀ u ∈ rawCells l, u.oneCell' = true := by
  intro u hu
  simp only [rawCells, List.mem_flatMap] at hu
  obtain ⟨x, _, hx⟩ := hu
  simp at hx
  rcases hx with rfl | rfl | rfl <;> rfl
theorem raws_app {w : World} {base base2 n m : Nat} {v v2 : Value} {xs : List Value} {ys : List RawD} (ty : TypeId) (ho : w.ownsRow base 50 3 v n xs) (hs : w.ownsRow base2 50 3 v2 m (rawCells ys)) (hbase : base ≤ w.heap.size) (hn : n + m ≤ 100000) :
    ∃ v' w', (Builtin.append_ #[69, 69] ty #[v, v2]).run Tryd.prog w = .ok v' w' ∧
      Hid (w'.ownsRow base 50 3 v' (n + m) (xs ++ rawCells ys) ∧ w.grownBy w' v.ownBlock ∧ Below base w w') := by
  obtain ⟨i, hi, hz, hsz, hby⟩ := info_parts Tryd.infoRaw
  have hbel : ∀ {w'}, w.grownBy w' v.ownBlock → Below base w w' := fun {w'} hg => (Below.refl base w).grown hg hbase (fun b hb2 => by
    rcases ho.2 with ⟨rfl, _⟩ | ⟨b2, cap, cur, rfl, hb3, _⟩
    · simp [Value.ownBlock] at hb2
    · simp [Value.ownBlock] at hb2; omega)
  rcases hs.2 with ⟨rfl, hm0⟩ | ⟨g, cap, cur, rfl, hbg, _⟩
  · have hy : rawCells ys = [] := List.eq_nil_of_length_eq_zero (by rw [hs.1, hm0])
    refine ⟨_, _, run_append_owned_none (P := Tryd.prog) (w := w) base 69 ty 50 i 3 Tryd.underlying69 hi v n xs ho, ?_, only_refl _ _, Below.refl _ _⟩
    rw [hy, hm0, List.append_nil]; exact ho
  · obtain ⟨v', w', hr, h2, h3, _⟩ := run_append_own (P := Tryd.prog) (w := w) base 69 ty 50 i _ 3 32 Tryd.underlying69 hi hz hsz hby rfl (by decide) v n xs ho ⟨g, 0, none⟩ m cap (rawCells ys) hs.1 (hs.cells (g := g) rfl) (raw_one ys)
      (by unfold maxLen; omega) (by omega) hbase
    exact ⟨v', w', hr, h2, h3, hbel h3⟩
end Go.Proofs.YtihbgkighckiiaaDoor
