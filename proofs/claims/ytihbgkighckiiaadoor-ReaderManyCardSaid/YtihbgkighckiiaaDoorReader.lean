/- reader.New, Left. No condition. -/
import Derived.Test.YtihbgkighckiiaaDoorFeed
import Derived.Test.YtihbgkighckiiaaDoorKind
namespace Go.Proofs.YtihbgkighckiiaaDoor
open Go.RowKit
set_option maxRecDepth 100000

theorem new_any (A : Nat → Addr) (w : World) : Calls Tryd.prog 30 #[] w fun e w' =>
    e = .returned (.pointer (some ⟨w.heap.size, 0, none⟩)) ∧ RIs A w' w.heap.size [] 0 ∧ Below w.heap.size w w' := by
  go_enter Tryd.func30, Tryd.ntmps30
  go_wp2
  go_ret
  exact ⟨rfl, ⟨_, Blk.new _ _ _, Sl.nil_ _ _, Off.nil_⟩, (Below.refl _ _).alloc (Nat.le_refl _) _⟩
theorem left_any (A : Nat → Addr) (g : Nat) (left : List UInt8) (k : Nat) (w : World) (h : RIs A w g left k) : Calls Tryd.prog 34 #[.pointer (some ⟨g, 0, none⟩)] w fun e w' =>
    e = .returned (.int .i64 left.length) ∧ w = w' := by
  obtain ⟨v, hk, hs, _⟩ := h
  obtain ⟨_, Ad, c, rfl, _⟩ := hs
  have gc := hk.cell 0
  rw [bv_length] at gc
  have gc0 : w.cell? ⟨g, 0, none⟩ = some (.slice Ad left.length c) := gc
  clear gc hk
  go_enter Tryd.func34, Tryd.ntmps34
  go_wp2
  go_ret
  exact ⟨rfl, rfl⟩
end Go.Proofs.YtihbgkighckiiaaDoor
