/- The words of an error within errors. No condition. -/
import Derived.Test.YtplegaadljbhoaaDoorFNew
import Derived.Test.YtplegaadljbhoaaDoorLater
namespace Go.Proofs.YtplegaadljbhoaaDoor
open Go.RowKit Go.Extern.Stop Go.Stop Go.Extern
set_option linter.unusedVariables false
set_option maxRecDepth 100000

theorem Tryd.errW (v : Value) (w : World) : (Go.method 214 48 v "Error").run Tryd.prog w = .ok (51, v) w := by kernel_rfl
theorem Tryd.errF (v : Value) (w : World) : (Go.method 214 33 v "Error").run Tryd.prog w = .ok (15, v) w := by kernel_rfl
set_option maxHeartbeats 800000 in
theorem wtext_any (g : Nat) (s tx : ByteArray) (T : TypeId) (u : Value) (f2 : FuncId) (w : World) (hblk : Blk w g 50 #[.string s, .iface T u])
    (hm : ∀ w, (Go.method 214 T u "Error").run Tryd.prog w = .ok (f2, u) w) (hfn : ∀ args w, (callFunc f2 args).run Tryd.prog w = .ok (.enter f2 args) w)
    (hc : ∀ w', Below w.heap.size w w' → Calls Tryd.prog f2 #[u] w' fun e w2 => e = .returned (.string tx) ∧ Below w'.heap.size w' w2) (hs : s.size ≤ 1000000) (ht : tx.size ≤ 1000000) :
    Calls Tryd.prog 51 #[.pointer (some ⟨g, 0, none⟩)] w fun e w' => e = .returned (.string (s ++ ⟨#[58, 32]⟩ ++ tx)) ∧ Below w.heap.size w w' := by
  have q0 : ∀ x : Later w, x.w.cell? ⟨g, 0, none⟩ = some (.string s) := fun x => x.cell (hblk.cell 0)
  have q1 : ∀ x : Later w, x.w.cell? ⟨g, 1, none⟩ = some (.iface T u) := fun x => x.cell (hblk.cell 1)
  have M : Hid (∀ x : Later w, Calls Tryd.prog f2 #[u] x.w fun e w' => e = .returned (.string tx) ∧ Below x.w.heap.size x.w w') := fun x => hc x.w x.h
  have hz1 : s.size + 2 ≤ 9223372036854775807 := by omega
  have hz2 : s.size + 2 + tx.size ≤ 9223372036854775807 := by omega
  have hz3 : (s ++ ⟨#[58, 32]⟩ : ByteArray).size + tx.size ≤ 9223372036854775807 := by rw [ByteArray.size_append]; show s.size + 2 + tx.size ≤ _; omega
  have hz4 : s.size + (⟨#[58, 32]⟩ : ByteArray).size ≤ 9223372036854775807 := by show s.size + 2 ≤ _; omega
  clear hblk hc
  go_enter Tryd.func51, Tryd.ntmps51
  go_upto_region 1 with (fail)
  refine wp_region_later_lit (by kernel_rfl) (by kernel_rfl) ?_
  repeat (any_goals (go_big_quiet_step (first | with_reducible exact later_call (M.out _))))
  refine wpQuiet_nil ?_
  intro _ hw'
  obtain ⟨x, hw''⟩ := hw'
  subst hw''
  go_wp2_with fail
  go_ret
  exact ⟨rfl, x.h⟩
theorem ftext_any (g : Nat) (o c : Int) (s : ByteArray) (v : Value) (w : World) (hblk : Blk w g 30 #[.int .i64 o, .int .i64 c, .string s, v]) :
    Calls Tryd.prog 15 #[.pointer (some ⟨g, 0, none⟩)] w fun e w' => e = .returned (.string s) ∧ w = w' := by
  have q0 : w.cell? ⟨g, 2, none⟩ = some (.string s) := hblk.cell 2
  clear hblk
  go_enter Tryd.func15, Tryd.ntmps15
  go_wp2
  go_ret
  exact ⟨rfl, rfl⟩
theorem wrap_nil (s : ByteArray) (w : World) : Calls Tryd.prog 11 #[.nilIface, .string s] w fun ev w' => ev = .returned .nilIface ∧ w = w' := by
  go_enter Tryd.func11, Tryd.ntmps11
  go_wp2
  go_ret
  exact ⟨rfl, rfl⟩
end Go.Proofs.YtplegaadljbhoaaDoor
