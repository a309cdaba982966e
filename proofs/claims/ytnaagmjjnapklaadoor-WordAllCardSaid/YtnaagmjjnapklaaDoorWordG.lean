/- The contracts of word.Get, GetText, GetList. No condition. -/
import Derived.Test.YtnaagmjjnapklaaDoorWord
import Derived.Test.YtnaagmjjnapklaaDoorErr
namespace Go.Proofs.YtnaagmjjnapklaaDoor
open Go.RowKit
set_option maxRecDepth 100000

def byteAt (bs : List UInt8) (k : Nat) : Int := ((bs[k]?).getD 0).toNat
theorem byteAt_lt (bs : List UInt8) (k : Nat) : 0 ≤ byteAt bs k ∧ byteAt bs k < 256 := by
  have := ((bs[k]?).getD 0).toNat_lt
  unfold byteAt; omega
/-- Four bytes as a number. -/
def leV (bs : List UInt8) (k : Nat) : Int := byteAt bs k + byteAt bs (k + 1) * 256 + byteAt bs (k + 2) * 65536 + byteAt bs (k + 3) * 16777216
/-- What Get answers: the error's number; the number. -/
def getE (bs : List UInt8) (at_ : Int) : Nat := if at_ < 0 ∨ bs.length < at_ then 1 else if bs.length - at_ < 4 then 2 else 0
def getV (bs : List UInt8) (at_ : Int) : Int := if getE bs at_ = 0 then leV bs at_.toNat else 0

theorem bv_at (bs : List UInt8) (k : Nat) (h : k < bs.length) : (bv bs)[k]? = some (.int .u8 (byteAt bs k)) := by
  rw [bv_get bs k h, byteAt, List.getElem?_eq_getElem h]; rfl

theorem or_shift (a b i : Nat) (h : a < 2 ^ i) : a ||| b * 2 ^ i = a + b * 2 ^ i := by
  have := Nat.shiftLeft_add_eq_or_of_lt h b
  rw [Nat.shiftLeft_eq] at this
  rw [Nat.or_comm, ← this, Nat.add_comm]
theorem or_le (x0 x1 x2 x3 : Int) (h0 : 0 ≤ x0) (h0' : x0 < 256) (h1 : 0 ≤ x1) (h1' : x1 < 256) (h2 : 0 ≤ x2) (h2' : x2 < 256) (h3 : 0 ≤ x3) (h3' : x3 < 256) :
    bits .or .u32 (bits .or .u32 (bits .or .u32 x0 (x1 * 256)) (x2 * 65536)) (x3 * 16777216) = x0 + x1 * 256 + x2 * 65536 + x3 * 16777216 := by
  obtain ⟨a, rfl⟩ := Int.eq_ofNat_of_zero_le h0
  obtain ⟨b, rfl⟩ := Int.eq_ofNat_of_zero_le h1
  obtain ⟨c, rfl⟩ := Int.eq_ofNat_of_zero_le h2
  obtain ⟨d, rfl⟩ := Int.eq_ofNat_of_zero_le h3
  have e1 : (b : Int) * 256 = ((b * 2 ^ 8 : Nat) : Int) := by simp
  have e2 : (c : Int) * 65536 = ((c * 2 ^ 16 : Nat) : Int) := by simp
  have e3 : (d : Int) * 16777216 = ((d * 2 ^ 24 : Nat) : Int) := by simp
  rw [e1, e2, e3, u32_or_nat _ _ (by omega) (by omega), or_shift a b 8 (by omega), u32_or_nat _ _ (by omega) (by omega), or_shift _ c 16 (by omega), u32_or_nat _ _ (by omega) (by omega), or_shift _ d 24 (by omega)]
  omega

set_option maxHeartbeats 400000 in
theorem get_arg (A : Nat → Addr) (S : List Nat) (v : Value) (bs : List UInt8) (at_ : Int) (w : World) (h : Sl w w.heap.size v (bv bs)) (hE : Errs w w.heap.size S A) (h1 : 1 ∈ S) (hat : at_ < 0 ∨ (bs.length : Int) < at_) :
    Calls Tryd.prog 9 #[v, .int .i64 at_] w fun e w' => e = .returned (.tuple #[.int .u32 0, .iface 70 (.pointer (some (A 1)))]) ∧ Below w.heap.size w w' := by
  have c1 : w.cell? ⟨0, 0, none⟩ = some (.iface 70 (.pointer (some (A 1)))) := hE.var h1
  obtain ⟨_, Ad, c, hv, hc, hm, _, _⟩ := h
  rw [bv_length] at hv hc
  obtain ⟨n, hn⟩ : ∃ n, n = bs.length := ⟨_, rfl⟩
  rw [← hn] at hv hc hat
  subst hv
  unfold maxLen at hm
  clear hn hE h1
  rcases hat with hat | hat
  all_goals
    have hd : decide (at_ < 0) = true ∨ decide ((n : Int) < at_) = true := by simp; omega
    go_enter Tryd.func9, Tryd.ntmps9
    go_wp2
    go_quiet (fail)
    all_goals (try go_wp2)
    all_goals go_ret2
    all_goals exact ⟨rfl, below_drewN (Below.refl _ _) _⟩

set_option maxHeartbeats 400000 in
theorem get_short (A : Nat → Addr) (S : List Nat) (v : Value) (bs : List UInt8) (at_ : Nat) (w : World) (h : Sl w w.heap.size v (bv bs)) (hE : Errs w w.heap.size S A) (h2 : 2 ∈ S) (hat : at_ ≤ bs.length) (hs : bs.length < at_ + 4) :
    Calls Tryd.prog 9 #[v, .int .i64 at_] w fun e w' => e = .returned (.tuple #[.int .u32 0, .iface 70 (.pointer (some (A 2)))]) ∧ Below w.heap.size w w' := by
  have c2 : w.cell? ⟨1, 0, none⟩ = some (.iface 70 (.pointer (some (A 2)))) := hE.var h2
  obtain ⟨_, Ad, c, hv, hc, hm, _, _⟩ := h
  rw [bv_length] at hv hc
  obtain ⟨n, hn⟩ : ∃ n, n = bs.length := ⟨_, rfl⟩
  rw [← hn] at hv hc hat hs
  subst hv
  unfold maxLen at hm
  clear hn hE h2
  go_enter Tryd.func9, Tryd.ntmps9
  go_wp2
  all_goals (go_quiet (fail))
  all_goals (try go_wp2)
  all_goals go_ret2
  all_goals exact ⟨rfl, below_drewN (Below.refl _ _) _⟩

set_option maxHeartbeats 800000 in
theorem get_ok (v : Value) (bs : List UInt8) (at_ : Nat) (w : World) (h : Sl w w.heap.size v (bv bs)) (hat : at_ + 4 ≤ bs.length) :
    Calls Tryd.prog 9 #[v, .int .i64 at_] w fun e w' => e = .returned (.tuple #[.int .u32 (leV bs at_), .nilIface]) ∧ Below w.heap.size w w' := by
  obtain ⟨_, Ad, c, hv, hc, hm, _, hx⟩ := h
  rw [bv_length] at hv hc hx
  obtain ⟨b, off, rfl, hB, hx⟩ := hx (by omega)
  have c0 := hx at_ _ (bv_at bs at_ (by omega))
  have c1 := hx (at_ + 1) _ (bv_at bs (at_ + 1) (by omega))
  have c2 := hx (at_ + 2) _ (bv_at bs (at_ + 2) (by omega))
  have c3 := hx (at_ + 3) _ (bv_at bs (at_ + 3) (by omega))
  rw [← Nat.add_assoc] at c1 c2 c3
  obtain ⟨b00, b01⟩ := byteAt_lt bs at_
  obtain ⟨b10, b11⟩ := byteAt_lt bs (at_ + 1)
  obtain ⟨b20, b21⟩ := byteAt_lt bs (at_ + 2)
  obtain ⟨b30, b31⟩ := byteAt_lt bs (at_ + 3)
  have hle : leV bs at_ = leV bs at_ := rfl
  conv at hle => rhs; unfold leV
  obtain ⟨x0, hx0⟩ : ∃ x, x = byteAt bs at_ := ⟨_, rfl⟩
  obtain ⟨x1, hx1⟩ : ∃ x, x = byteAt bs (at_ + 1) := ⟨_, rfl⟩
  obtain ⟨x2, hx2⟩ : ∃ x, x = byteAt bs (at_ + 2) := ⟨_, rfl⟩
  obtain ⟨x3, hx3⟩ : ∃ x, x = byteAt bs (at_ + 3) := ⟨_, rfl⟩
  rw [← hx0] at c0 b00 b01 hle
  rw [← hx1] at c1 b10 b11 hle
  rw [← hx2] at c2 b20 b21 hle
  rw [← hx3] at c3 b30 b31 hle
  have HL := Lib.hid hle
  obtain ⟨n, hn⟩ : ∃ n, n = bs.length := ⟨_, rfl⟩
  rw [← hn] at hv hc hat
  subst hv
  unfold maxLen at hm
  clear hn hx hle hx0 hx1 hx2 hx3
  go_enter Tryd.func9, Tryd.ntmps9
  go_wp2
  go_quiet (fail)
  all_goals (try go_wp2)
  all_goals go_ret2
  all_goals exact ⟨by rw [HL.out, ← or_le x0 x1 x2 x3 b00 b01 b10 b11 b20 b21 b30 b31]; rfl, below_drewN (Below.refl _ _) _⟩

/-- Get, whatever the place. -/
theorem get_any (A : Nat → Addr) (S : List Nat) (v : Value) (bs : List UInt8) (at_ : Int) (w : World) (h : Sl w w.heap.size v (bv bs)) (hE : Errs w w.heap.size S A) (h1 : 1 ∈ S) (h2 : 2 ∈ S) :
    Calls Tryd.prog 9 #[v, .int .i64 at_] w fun e w' => e = .returned (.tuple #[.int .u32 (getV bs at_), errV A (getE bs at_)]) ∧ Below w.heap.size w w' := by
  by_cases c1 : at_ < 0 ∨ (bs.length : Int) < at_
  · have e : getE bs at_ = 1 := by simp only [getE]; rw [if_pos c1]
    simp only [getV, e]
    exact get_arg A S v bs at_ w h hE h1 c1
  · obtain ⟨k, rfl⟩ := Int.eq_ofNat_of_zero_le (show 0 ≤ at_ by omega)
    by_cases c2 : (bs.length : Int) - k < 4
    · have e : getE bs k = 2 := by simp only [getE]; rw [if_neg c1, if_pos c2]
      simp only [getV, e]
      exact get_short A S v bs k w h hE h2 (by omega) (by omega)
    · have e : getE bs k = 0 := by simp only [getE]; rw [if_neg c1, if_neg c2]
      simp only [getV, e]
      exact get_ok v bs k w h (by omega)
end Go.Proofs.YtnaagmjjnapklaaDoor
