/- The calls of package memory: Word. No condition but that the place is no giant. -/
import Derived.Test.YtagjmkgbfbaekaaDoorMemH
import Derived.Test.YtagjmkgbfbaekaaDoorLe
namespace Go.Proofs.YtagjmkgbfbaekaaDoor
open Go.RowKit
set_option maxRecDepth 100000

/-- A byte at any place: 0 where there is none. -/
def bAt (bs : List UInt8) (k : Int) : Int := if 0 ≤ k ∧ k < bs.length then byteAt bs k.toNat else 0
theorem bAt_lt (bs : List UInt8) (k : Int) : 0 ≤ bAt bs k ∧ bAt bs k < 256 := by
  unfold bAt; split
  · exact byteAt_lt _ _
  · omega
/-- The first i bytes of four, as a number. -/
def wT (bs : List UInt8) (a : Int) : Nat → Int
  | 0 => 0
  | 1 => bAt bs a
  | 2 => bAt bs a + bAt bs (a + 1) * 256
  | 3 => bAt bs a + bAt bs (a + 1) * 256 + bAt bs (a + 2) * 65536
  | _ => bAt bs a + bAt bs (a + 1) * 256 + bAt bs (a + 2) * 65536 + bAt bs (a + 3) * 16777216
def wordB (bs : List UInt8) (a : Int) : Int := wT bs a 4
theorem or_at (x y : Int) (i : Nat) (hi : i ≤ 24) (hx0 : 0 ≤ x) (hx : x < 2 ^ i) (hy0 : 0 ≤ y) (hy : y < 256) : bits .or .u32 x (y * 2 ^ i) = x + y * 2 ^ i := by
  obtain ⟨a, rfl⟩ := Int.eq_ofNat_of_zero_le hx0
  obtain ⟨b, rfl⟩ := Int.eq_ofNat_of_zero_le hy0
  have h24 : 2 ^ i ≤ 2 ^ 24 := Nat.pow_le_pow_right (by omega) hi
  have ha : a < 2 ^ i := by exact_mod_cast hx
  have hb : b * 2 ^ i ≤ 255 * 2 ^ 24 := Nat.mul_le_mul (by omega) h24
  have e : (b : Int) * 2 ^ i = ((b * 2 ^ i : Nat) : Int) := by simp
  rw [e, u32_or_nat _ _ (by omega) (by omega), or_shift a b i ha]
  omega
theorem or0 (y : Int) (hy0 : 0 ≤ y) (hy : y < 256) : bits .or .u32 0 y = y := by have := or_at 0 y 0 (by omega) (by omega) (by omega) hy0 hy; simpa using this
theorem or8 (x y : Int) (h0 : 0 ≤ x) (h1 : x < 256) (hy0 : 0 ≤ y) (hy : y < 256) : bits .or .u32 x (y * 256) = x + y * 256 := by have := or_at x y 8 (by omega) h0 (by omega) hy0 hy; simpa using this
theorem or16 (x y : Int) (h0 : 0 ≤ x) (h1 : x < 65536) (hy0 : 0 ≤ y) (hy : y < 256) : bits .or .u32 x (y * 65536) = x + y * 65536 := by have := or_at x y 16 (by omega) h0 (by omega) hy0 hy; simpa using this
theorem or24 (x y : Int) (h0 : 0 ≤ x) (h1 : x < 16777216) (hy0 : 0 ≤ y) (hy : y < 256) : bits .or .u32 x (y * 16777216) = x + y * 16777216 := by have := or_at x y 24 (by omega) h0 (by omega) hy0 hy; simpa using this

def WordRel (bs : List UInt8) (a : Int) (v i : Value) : Prop := ∃ k : Nat, k ≤ 4 ∧ i = .int .i64 k ∧ v = .int .u32 (wT bs a k)
theorem MemIs.cell {w : World} {B g m : Nat} {L : List Ent} (h : MemIs w B g m L) {k : Int} {j b : Nat} {bs : List UInt8} (hl : look L k = some (j, b, bs)) (q : Nat) (hq : q < bs.length) : w.cell? ⟨b, q, none⟩ = some (.int .u8 (byteAt bs q)) := by
  rw [(h.row _ (look_mem L k j b bs hl).1).cell]
  simpa using bv_at bs q hq
/-- One round, in range or not. -/
def inR (n : Nat) (k : Int) : Prop := 0 ≤ k ∧ k < n

set_option maxHeartbeats 3200000 in
theorem mword_any (B g m : Nat) (L : List Ent) (k a : Int) (w : World) (h : MemIs w B g m L) (hS : Small L) (ha1 : -9223372036854775808 ≤ a) (ha2 : a ≤ 9223372036854775804) :
    Calls Tryd.prog 17 #[.pointer (some ⟨g, 0, none⟩), .int .i64 k, .int .i64 a] w fun e w' => e = .returned (.int .u32 (wordB (old L k) a)) ∧ w = w' := by
  have hlk := run_lookup_mem h k
  have gc0 := h.box.cell 0
  simp at gc0
  obtain ⟨bs, hbs⟩ : ∃ bs, bs = old L k := ⟨_, rfl⟩
  have hform : ∃ A n, lookV (look L k) = .slice A n n ∧ n = bs.length ∧ n ≤ 65536 ∧ ∀ q, q < n → ∃ b, A = some ⟨b, 0, none⟩ ∧ w.cell? ⟨b, q, none⟩ = some (.int .u8 (byteAt bs q)) := by
    cases hl : look L k with
    | none => exact ⟨none, 0, rfl, by rw [hbs, old_none hl]; rfl, by omega, fun q hq => absurd hq (Nat.not_lt_zero _)⟩
    | some r =>
      obtain ⟨j, b, bs'⟩ := r
      rw [old_look hl] at hbs
      subst hbs
      exact ⟨_, _, rfl, rfl, hS _ (look_mem L k j b bs hl).1, fun q hq => ⟨b, rfl, h.cell hl q hq⟩⟩
  obtain ⟨A, n, hv, hn, hn2, hq⟩ := hform
  rw [hv] at hlk
  have HQ := Lib.hid hq
  have HN := Lib.hid hn
  rw [← hbs]
  clear hbs hv hn hq h hS
  have hb0 := bAt_lt bs a
  have hb1 := bAt_lt bs (a + 1)
  have hb2 := bAt_lt bs (a + 2)
  have hb3 := bAt_lt bs (a + 3)
  have HBO : Hid (∀ x, ¬ inR n x → bAt bs x = 0) := fun x hx => by unfold bAt inR at *; rw [if_neg (by rw [← HN.out]; exact hx)]
  have HBI : Hid (∀ q : Nat, q < n → bAt bs q = byteAt bs q) := fun q hq => by unfold bAt; rw [if_pos (by rw [← HN.out]; omega)]; simp
  have HW : Hid (wT bs a 0 = 0 ∧ wT bs a 1 = bAt bs a ∧ wT bs a 2 = bAt bs a + bAt bs (a + 1) * 256 ∧ wT bs a 3 = bAt bs a + bAt bs (a + 1) * 256 + bAt bs (a + 2) * 65536 ∧ wT bs a 4 = bAt bs a + bAt bs (a + 1) * 256 + bAt bs (a + 2) * 65536 + bAt bs (a + 3) * 16777216) := ⟨rfl, rfl, rfl, rfl, rfl⟩
  obtain ⟨x0, e0⟩ : ∃ x, x = bAt bs a := ⟨_, rfl⟩
  obtain ⟨x1, e1⟩ : ∃ x, x = bAt bs (a + 1) := ⟨_, rfl⟩
  obtain ⟨x2, e2⟩ : ∃ x, x = bAt bs (a + 2) := ⟨_, rfl⟩
  obtain ⟨x3, e3⟩ : ∃ x, x = bAt bs (a + 3) := ⟨_, rfl⟩
  rw [← e0] at hb0 HW
  rw [← e1] at hb1 HW
  rw [← e2] at hb2 HW
  rw [← e3] at hb3 HW
  have E0 := Lib.hid e0
  have E1 := Lib.hid e1
  have E2 := Lib.hid e2
  have E3 := Lib.hid e3
  have O0 := Lib.hid (or0 x0 hb0.1 hb0.2)
  have O1 := Lib.hid (or8 x0 x1 hb0.1 hb0.2 hb1.1 hb1.2)
  have O2 := Lib.hid (or16 (x0 + x1 * 256) x2 (by omega) (by omega) hb2.1 hb2.2)
  have O3 := Lib.hid (or24 (x0 + x1 * 256 + x2 * 65536) x3 (by omega) (by omega) hb3.1 hb3.2)
  obtain ⟨p00, p01⟩ := hb0
  obtain ⟨p10, p11⟩ := hb1
  obtain ⟨p20, p21⟩ := hb2
  obtain ⟨p30, p31⟩ := hb3
  clear e0 e1 e2 e3
  go_enter Tryd.func17, Tryd.ntmps17
  go_wp2
  go_loop [8, 17] (WordRel bs a) (fun _ i => 4 - (intOf i).toNat)
  case atStart => exact ⟨0, by omega, rfl, rfl⟩
  case round =>
    obtain ⟨i, hi, rfl, rfl⟩ := hrel
    have hca : i = 0 ∨ i = 1 ∨ i = 2 ∨ i = 3 ∨ i = 4 := by omega
    rcases hca with rfl | rfl | rfl | rfl | rfl
    · rw [HW.out.1]
      by_cases hr : inR n a
      · obtain ⟨h0, h1⟩ := hr
        obtain ⟨q, hq⟩ : ∃ q : Nat, a = q := Int.eq_ofNat_of_zero_le h0
        obtain ⟨b, rfl, hcell⟩ := HQ.out q (by omega)
        have hcell' : w.cell? ⟨b, (a).toNat, none⟩ = some (.int .u8 x0) := by rw [E0.out, hq, HBI.out q (by omega), Int.toNat_natCast]; exact hcell
        clear hcell hq
        go_wp2
        refine ⟨⟨1, by omega, rfl, ?_⟩, by simp [intOf]⟩
        rw [O0.out, HW.out.2.1]
      · have hx : x0 = 0 := by rw [E0.out]; exact HBO.out _ hr
        have hfin : Hid (wT bs a 0 = wT bs a 1) := by show _ = _; have q1 := HW.out.1; have q2 := HW.out.2.1; rw [hx] at q2; omega
        have hr' : a < 0 ∨ (0 ≤ a ∧ (n : Int) ≤ a) := by unfold inR at hr; omega
        have HE := Lib.hid HW.out.1
        clear hr hx
        rcases hr' with h0 | ⟨h0, h1⟩
        · have d0 : decide (0 ≤ a) = false := by simpa using h0
          go_wp2
          exact ⟨⟨1, by omega, rfl, by rw [← hfin.out, HE.out]⟩, by simp [intOf]⟩
        · have d0 : decide (a < (n : Int)) = false := by simpa using h1
          go_wp2
          exact ⟨⟨1, by omega, rfl, by rw [← hfin.out, HE.out]⟩, by simp [intOf]⟩
    · rw [HW.out.2.1]
      by_cases hr : inR n (a + 1)
      · obtain ⟨h0, h1⟩ := hr
        obtain ⟨q, hq⟩ : ∃ q : Nat, (a + 1) = q := Int.eq_ofNat_of_zero_le h0
        obtain ⟨b, rfl, hcell⟩ := HQ.out q (by omega)
        have hcell' : w.cell? ⟨b, ((a + 1)).toNat, none⟩ = some (.int .u8 x1) := by rw [E1.out, hq, HBI.out q (by omega), Int.toNat_natCast]; exact hcell
        clear hcell hq
        go_wp2
        refine ⟨⟨2, by omega, rfl, ?_⟩, by simp [intOf]⟩
        rw [O1.out, HW.out.2.2.1]
      · have hx : x1 = 0 := by rw [E1.out]; exact HBO.out _ hr
        have hfin : Hid (wT bs a 1 = wT bs a 2) := by show _ = _; have q1 := HW.out.2.1; have q2 := HW.out.2.2.1; rw [hx] at q2; omega
        have hr' : (a + 1) < 0 ∨ (0 ≤ (a + 1) ∧ (n : Int) ≤ (a + 1)) := by unfold inR at hr; omega
        have HE := Lib.hid HW.out.2.1
        clear hr hx
        rcases hr' with h0 | ⟨h0, h1⟩
        · have d0 : decide (0 ≤ (a + 1)) = false := by simpa using h0
          go_wp2
          exact ⟨⟨2, by omega, rfl, by rw [← hfin.out, HE.out]⟩, by simp [intOf]⟩
        · have d0 : decide ((a + 1) < (n : Int)) = false := by simpa using h1
          go_wp2
          exact ⟨⟨2, by omega, rfl, by rw [← hfin.out, HE.out]⟩, by simp [intOf]⟩
    · rw [HW.out.2.2.1]
      by_cases hr : inR n (a + 2)
      · obtain ⟨h0, h1⟩ := hr
        obtain ⟨q, hq⟩ : ∃ q : Nat, (a + 2) = q := Int.eq_ofNat_of_zero_le h0
        obtain ⟨b, rfl, hcell⟩ := HQ.out q (by omega)
        have hcell' : w.cell? ⟨b, ((a + 2)).toNat, none⟩ = some (.int .u8 x2) := by rw [E2.out, hq, HBI.out q (by omega), Int.toNat_natCast]; exact hcell
        clear hcell hq
        go_wp2
        refine ⟨⟨3, by omega, rfl, ?_⟩, by simp [intOf]⟩
        rw [O2.out, HW.out.2.2.2.1]
      · have hx : x2 = 0 := by rw [E2.out]; exact HBO.out _ hr
        have hfin : Hid (wT bs a 2 = wT bs a 3) := by show _ = _; have q1 := HW.out.2.2.1; have q2 := HW.out.2.2.2.1; rw [hx] at q2; omega
        have hr' : (a + 2) < 0 ∨ (0 ≤ (a + 2) ∧ (n : Int) ≤ (a + 2)) := by unfold inR at hr; omega
        have HE := Lib.hid HW.out.2.2.1
        clear hr hx
        rcases hr' with h0 | ⟨h0, h1⟩
        · have d0 : decide (0 ≤ (a + 2)) = false := by simpa using h0
          go_wp2
          exact ⟨⟨3, by omega, rfl, by rw [← hfin.out, HE.out]⟩, by simp [intOf]⟩
        · have d0 : decide ((a + 2) < (n : Int)) = false := by simpa using h1
          go_wp2
          exact ⟨⟨3, by omega, rfl, by rw [← hfin.out, HE.out]⟩, by simp [intOf]⟩
    · rw [HW.out.2.2.2.1]
      by_cases hr : inR n (a + 3)
      · obtain ⟨h0, h1⟩ := hr
        obtain ⟨q, hq⟩ : ∃ q : Nat, (a + 3) = q := Int.eq_ofNat_of_zero_le h0
        obtain ⟨b, rfl, hcell⟩ := HQ.out q (by omega)
        have hcell' : w.cell? ⟨b, ((a + 3)).toNat, none⟩ = some (.int .u8 x3) := by rw [E3.out, hq, HBI.out q (by omega), Int.toNat_natCast]; exact hcell
        clear hcell hq
        go_wp2
        refine ⟨⟨4, by omega, rfl, ?_⟩, by simp [intOf]⟩
        rw [O3.out, HW.out.2.2.2.2]
      · have hx : x3 = 0 := by rw [E3.out]; exact HBO.out _ hr
        have hfin : Hid (wT bs a 3 = wT bs a 4) := by show _ = _; have q1 := HW.out.2.2.2.1; have q2 := HW.out.2.2.2.2; rw [hx] at q2; omega
        have hr' : (a + 3) < 0 ∨ (0 ≤ (a + 3) ∧ (n : Int) ≤ (a + 3)) := by unfold inR at hr; omega
        have HE := Lib.hid HW.out.2.2.2.1
        clear hr hx
        rcases hr' with h0 | ⟨h0, h1⟩
        · have d0 : decide (0 ≤ (a + 3)) = false := by simpa using h0
          go_wp2
          exact ⟨⟨4, by omega, rfl, by rw [← hfin.out, HE.out]⟩, by simp [intOf]⟩
        · have d0 : decide ((a + 3) < (n : Int)) = false := by simpa using h1
          go_wp2
          exact ⟨⟨4, by omega, rfl, by rw [← hfin.out, HE.out]⟩, by simp [intOf]⟩
    · have HV : Hid (Ending.returned (.int .u32 (wT bs a 4)) = .returned (.int .u32 (wordB bs a))) := rfl
      go_wp2
      go_ret
      exact ⟨HV.out, rfl⟩
end Go.Proofs.YtagjmkgbfbaekaaDoor
