/- tableaulaw00.Bytes: a copy in new memory. No condition but that it fits. -/
import Derived.Test.YtagjmkgbfbaekaaDoorApp
import Derived.Test.YtagjmkgbfbaekaaDoorMemR
import Derived.Outline
namespace Go.Proofs.YtagjmkgbfbaekaaDoor
open Go.RowKit

set_option maxHeartbeats 400000 in
theorem mbytes_any (v : Value) (bs : List UInt8) (w : World) (h : Sl w w.heap.size v (bv bs)) (hn : bs.length ≤ 140737488355328) :
    Calls Tryd.prog 21 #[v] w fun e w' => ∃ v', e = .returned v' ∧ w'.ownsRow w.heap.size 5 1 v' bs.length (bv bs) ∧ Below w.heap.size w w' := by
  obtain ⟨i, hi, hz, hs1, hby⟩ := info_parts Tryd.infoB8
  have H := Lib.hid h
  obtain ⟨_, A, c, hv, hc, hm, hA0, hx⟩ := h
  rw [bv_length] at hv hc
  obtain ⟨n, hn'⟩ : ∃ n, n = bs.length := ⟨_, rfl⟩
  rw [← hn'] at hv hc hn
  subst hv
  have HN := Lib.hid hn'
  clear hn' hx hA0 hm
  go_enter Tryd.func21, Tryd.ntmps21
  go_wp2_with (
    at_builtin
    refine wpList_app rfl _ _ _ _ rfl _ _ rfl rfl (fun v' w' => Hid (w'.ownsRow w.heap.size 5 1 v' (0 + n) ([] ++ bv bs) ∧ Below w.heap.size w w')) ?hrun ?_
    case hrun =>
      have hs : SlN w w.heap.size 1 (.slice A n c) n (bv bs) := by
        have := H.out
        unfold Sl at this
        rw [bv_length, ← HN.out] at this
        exact this
      obtain ⟨v', w', hr, h2, h3⟩ := run_app_own (ty := 31) Tryd.underlying31 hi hz hs1 rfl (World.ownsRow_nil w w.heap.size 5 1) hs (bv_one bs) (Nat.le_refl _) ⟨by omega, .inr hby⟩
      exact ⟨v', w', hr, h2, h3⟩
    intro v1 w1 hR)
  go_ret
  have hR1 := hR.out.1
  rw [Nat.zero_add, List.nil_append, HN.out] at hR1
  exact ⟨_, rfl, hR1, hR.out.2⟩
end Go.Proofs.YtagjmkgbfbaekaaDoor
