/- An entry may say that there are more blocks behind it than there are: numbers of blocks may be left out. No condition. -/
import Derived.Test.YtenpbpgoglepfaaGreatDoorMm11
namespace Go.Proofs.YtenpbpgoglepfaaGreatDoor
open Go.RowKit
set_option linter.unusedVariables false
theorem EntOk.pad {g n n1 n' : Nat} {ar v : AV} {lu lc l' : BL} (h : EntOk g (.mk ar n lu lc v n1 l')) (hn : n1 ≤ n') : EntOk g (.mk ar n lu lc v n' l') := fun E B0 hE r w args hb hs hr =>
  (h E B0 hE r w args hb hs hr).mono fun x w' ⟨r', s', k1, k2, k3, k4, k5, k6⟩ => by
    have hn2 : r'.n ≤ n' := by rw [← k2.n, k4]; exact hn
    have hle : r'.Le ⟨n', r'.has, r'.blk, r'.off, r'.tot, r'.lp, r'.opq⟩ := ⟨hn2, fun b hb => ⟨hb, rfl, rfl, rfl⟩, fun _ _ => rfl, rfl⟩
    refine ⟨⟨n', r'.has, r'.blk, r'.off, r'.tot, r'.lp, r'.opq⟩, .mk s'.h n', ((rel_le hle v).1 x) k1, ?_, ?_, rfl, k5, k6⟩
    · exact ⟨rfl, fun b hb => Nat.lt_of_lt_of_le (k2.lt b hb) hn2, k2.low, fun b => OkB.le (k2.ok b) hle rfl, k2.inj, k2.ety⟩
    · exact ⟨k3.le.trans hle, k3.os, k3.tape, k3.output, k3.size, k3.keep, k3.new, k3.old⟩
end Go.Proofs.YtenpbpgoglepfaaGreatDoor
