/- WireLimits$1: one argument, checked. No condition but that an error stands in memory. -/
import Derived.Test.YtihbgkighckiiaaDoorWAwake
namespace Go.Proofs.YtihbgkighckiiaaDoor
open Go.RowKit
set_option maxRecDepth 100000

theorem lone_check (k z : Int) (s : ByteArray) (c : UInt8) (hk : k = c.toNat) (b : Bool) (hb : suchB k z s = b) : checkE 1 0 [(k, z, s)] (strB [c]) = if b then 0 else 1 := by
  subst hk hb
  unfold checkE checkB
  have h1 : headOk 1 0 [((c.toNat : Int), z, s)].length (strB [c]).size = true := by rw [strB_size]; rfl
  rw [h1, strB_toList]
  simp [okArgs]

set_option maxHeartbeats 800000 in
theorem lone_any (A : Nat → Addr) (S : List Nat) (h1 : 1 ∈ S) (k z : Int) (s : ByteArray) (c : UInt8) (hk : k = c.toNat) (b : Bool) (hb : suchB k z s = b) (hsz : s.size ≤ 140737488351232) (w : World) (hE : Errs w w.heap.size S A) :
    Calls Tryd.prog 13 #[.int .u8 k, .int .i64 z, .string s] w fun e w' => e = .returned (.bool b) ∧ Below w.heap.size w w' := by
  have HCE := Lib.hid (lone_check k z s c hk b hb)
  have HE := Lib.hid hE
  have hb1 : Below w.heap.size w (w.alloc (.cells #[.int .u8 k, .int .i64 z, .string s] 26)) := (Below.refl _ _).alloc (Nat.le_refl _) _
  have hb2 : Below w.heap.size w ((w.alloc (.cells #[.int .u8 k, .int .i64 z, .string s] 26)).alloc (.cells #[.int .u8 k] 5)) := hb1.alloc hb1.size _
  have ha : ArgsIs (w.alloc (.cells #[.int .u8 k, .int .i64 z, .string s] 26)) (.slice (some ⟨w.heap.size, 0, none⟩) 1 1) [(k, z, s)] := by
    refine ⟨rfl, _, _, rfl, Nat.le_refl _, by unfold maxLen; omega, (fun h => by cases h), fun _ => ⟨w.heap.size, 0, rfl, by simp, fun j u hu => ?_⟩⟩
    rw [(Blk.new w 26 _).cell]
    simpa [argCells] using hu
  have ha2 := Lib.hid (ha.below ((Below.refl _ _).alloc (Nat.le_refl _) (.cells #[.int .u8 k] 5)))
  have hkb : (bv [c]).toArray = #[.int .u8 k] := by rw [hk]; rfl
  have hs : Sl ((w.alloc (.cells #[.int .u8 k, .int .i64 z, .string s] 26)).alloc (.cells #[.int .u8 k] 5)) ((w.alloc (.cells #[.int .u8 k, .int .i64 z, .string s] 26)).alloc (.cells #[.int .u8 k] 5)).heap.size (.slice (some ⟨(w.alloc (.cells #[.int .u8 k, .int .i64 z, .string s] 26)).heap.size, 0, none⟩) 1 1) (bv [c]) := by
    have := lit_sl (w.alloc (.cells #[.int .u8 k, .int .i64 z, .string s] 26)) 5 [c] 1 rfl (by omega)
    rw [hkb] at this
    exact this
  have hcv := conv_str Tryd.underlying30 Tryd.underlying5 Tryd.underlying9 hs
  have HB2 := Lib.hid hb2
  have HSZ := Lib.hid (show Fit [(k, z, s)] from by intro x hx; simp at hx; subst hx; exact hsz)
  have hsg : (strB [c]).size ≤ 140737488351232 := by rw [strB_size]; simp
  have HSG := Lib.hid hsg
  rw [World.size_alloc] at hcv
  clear hE hb1 hb2 ha hs hsz hb hsg hk hkb
  generalize strB [c] = sg at HCE HSG hcv
  go_enter Tryd.func13, Tryd.ntmps13
  go_wp2_with fail
  refine (check_any A S h1 1 0 _ [(k, z, s)] sg _ (HE.out.to HB2.out HB2.out.size) ha2.out HSZ.out HSG.out).mono ?_
  rintro e w1 ⟨rfl, hb1⟩
  rw [HCE.out]
  have HB1 := Lib.hid (HB2.out.trans (hb1.mono HB2.out.size))
  clear hb1
  cases b
  · rw [if_neg (by decide), errV_pos A (by omega)]
    go_wp2
    go_ret
    exact ⟨rfl, HB1.out⟩
  · rw [if_pos rfl, errV_zero]
    go_wp2
    go_ret
    exact ⟨rfl, HB1.out⟩
end Go.Proofs.YtihbgkighckiiaaDoor
