/- The document's example of package wire. No condition but that two errors stand in memory. -/
import Derived.Test.YtihbgkighckiiaaDoorWPut
namespace Go.Proofs.YtihbgkighckiiaaDoor
open Go.RowKit
set_option maxRecDepth 100000

def exArg : List ArgD := [(110, 2, ⟨#[]⟩)]
set_option maxHeartbeats 800000 in
theorem w4awake_any (A : Nat → Addr) (S : List Nat) (h1 : 1 ∈ S) (h4 : 4 ∈ S) (w : World) (hE : Errs w w.heap.size S A) :
    Calls Tryd.prog 15 #[] w fun e w' => e = .returned (.bool true) ∧ Below w.heap.size w w' := by
  have hpe : putE 1 0 exArg ⟨#[110]⟩ = 0 := by decide +kernel
  have hpr : strB (putR 1 0 exArg ⟨#[110]⟩) = ⟨#[1, 0, 0, 0, 0, 0, 12, 0, 2, 0, 0, 0]⟩ := by decide +kernel
  have HPE := Lib.hid hpe
  have HPR := Lib.hid hpr
  have HE := Lib.hid hE
  clear hpe hpr hE
  go_enter Tryd.func15, Tryd.ntmps15
  go_wp2_with fail
  have hb1 : Below w.heap.size w (w.alloc (.cells #[.int .u8 110, .int .i64 2, .string ⟨#[]⟩] 26)) := (Below.refl _ _).alloc (Nat.le_refl _) _
  have ha : ArgsIs (w.alloc (.cells #[.int .u8 110, .int .i64 2, .string ⟨#[]⟩] 26)) (.slice (some ⟨w.heap.size, 0, none⟩) 1 1) exArg := by
    refine ⟨rfl, _, _, rfl, Nat.le_refl _, by unfold maxLen; omega, (fun h => by cases h), fun _ => ⟨w.heap.size, 0, rfl, by simp, fun j u hu => ?_⟩⟩
    rw [(Blk.new w 26 _).cell]
    simpa [exArg, argCells] using hu
  refine (wput_any A S h1 h4 1 0 _ exArg ⟨#[110]⟩ _ (HE.out.to hb1 hb1.size) ha (by intro x hx; simp [exArg] at hx; subst hx; decide) (by decide) (by decide)).mono ?_
  rintro e w2 ⟨v, rfl, hs, hb2⟩
  have k := conv_str Tryd.underlying30 Tryd.underlying5 Tryd.underlying9 hs
  rw [HPR.out] at k
  rw [HPE.out, errV_zero]
  have HB2 := Lib.hid (hb1.trans (hb2.mono hb1.size))
  clear hs hb2 hb1 ha
  go_wp2
  go_ret
  exact ⟨rfl, HB2.out⟩
end Go.Proofs.YtihbgkighckiiaaDoor
