/- The document's words: tableauref01's Put, Get, put, PutText, PutList. No condition. -/
import Derived.Test.YtnaagmjjnapklaaDoorWord
import Derived.Test.YtnaagmjjnapklaaDoorWordG
namespace Go.Proofs.YtnaagmjjnapklaaDoor
open Go.RowKit
set_option maxRecDepth 100000

set_option maxHeartbeats 400000 in
theorem rput_any (x : Int) (w : World) (h0 : 0 ≤ x) (h1 : x < 4294967296) :
    Calls Tryd.prog 18 #[.int .u32 x] w fun e w' => e = .returned (.slice (some ⟨w.heap.size, 0, none⟩) 4 4) ∧ Blk w' w.heap.size 5 (bv (le4 x)).toArray ∧ Below w.heap.size w w' := by
  have hb := bv_le4 x h0 h1
  have HB := Lib.hid hb
  clear hb
  go_enter Tryd.func18, Tryd.ntmps18
  go_wp2
  go_ret
  rw [HB.out]
  exact ⟨rfl, Blk.new _ _ _, (Below.refl _ _).alloc (Nat.le_refl _) _⟩

set_option maxHeartbeats 400000 in
theorem rget_arg (v : Value) (bs : List UInt8) (at_ : Int) (w : World) (h : Sl w w.heap.size v (bv bs)) (hat : at_ < 0 ∨ (bs.length : Int) < at_) :
    Calls Tryd.prog 25 #[v, .int .i64 at_] w fun e w' => e = .returned (.tuple #[.int .u32 0, .int .i64 1]) ∧ Below w.heap.size w w' := by
  obtain ⟨_, Ad, c, hv, hc, hm, _, _⟩ := h
  rw [bv_length] at hv hc
  obtain ⟨n, hn⟩ : ∃ n, n = bs.length := ⟨_, rfl⟩
  rw [← hn] at hv hc hat
  subst hv
  unfold maxLen at hm
  clear hn
  rcases Int.lt_or_le at_ 0 with h0 | h0
  · have hd : decide (at_ < 0) = true := by simpa using h0
    go_enter Tryd.func25, Tryd.ntmps25
    go_wp2
    go_ret2
    exact ⟨rfl, Below.refl _ _⟩
  · have hd : decide (at_ < 0) = false := by simpa using h0
    have hd2 : decide ((n : Int) < at_) = true := by simp; omega
    go_enter Tryd.func25, Tryd.ntmps25
    go_wp2
    go_ret2
    exact ⟨rfl, Below.refl _ _⟩
set_option maxHeartbeats 400000 in
theorem rget_short (v : Value) (bs : List UInt8) (at_ : Nat) (w : World) (h : Sl w w.heap.size v (bv bs)) (hat : at_ ≤ bs.length) (hs : bs.length < at_ + 4) :
    Calls Tryd.prog 25 #[v, .int .i64 at_] w fun e w' => e = .returned (.tuple #[.int .u32 0, .int .i64 2]) ∧ Below w.heap.size w w' := by
  obtain ⟨_, Ad, c, hv, hc, hm, _, _⟩ := h
  rw [bv_length] at hv hc
  obtain ⟨n, hn⟩ : ∃ n, n = bs.length := ⟨_, rfl⟩
  rw [← hn] at hv hc hat hs
  subst hv
  unfold maxLen at hm
  clear hn
  have hd : decide ((at_ : Int) < 0) = false := by simp
  have hd2 : decide ((n : Int) < (at_ : Int)) = false := by simp; omega
  have hd3 : decide ((n : Int) - (at_ : Int) < 4) = true := by simp; omega
  go_enter Tryd.func25, Tryd.ntmps25
  go_wp2
  go_ret2
  exact ⟨rfl, Below.refl _ _⟩
set_option maxHeartbeats 1600000 in
theorem rget_ok (v : Value) (bs : List UInt8) (at_ : Nat) (w : World) (h : Sl w w.heap.size v (bv bs)) (hat : at_ + 4 ≤ bs.length) :
    Calls Tryd.prog 25 #[v, .int .i64 at_] w fun e w' => e = .returned (.tuple #[.int .u32 (leV bs at_), .int .i64 0]) ∧ Below w.heap.size w w' := by
  obtain ⟨_, Ad, c, hv, hc, hm, _, hx⟩ := h
  rw [bv_length] at hv hc hx
  obtain ⟨b, off, rfl, hB, hx⟩ := hx (by omega)
  have c0 := hx at_ _ (bv_at bs at_ (by omega))
  have c1 := hx (at_ + 1) _ (bv_at bs (at_ + 1) (by omega))
  have c2 := hx (at_ + 2) _ (bv_at bs (at_ + 2) (by omega))
  have c3 := hx (at_ + 3) _ (bv_at bs (at_ + 3) (by omega))
  obtain ⟨b00, b01⟩ := byteAt_lt bs at_
  obtain ⟨b10, b11⟩ := byteAt_lt bs (at_ + 1)
  obtain ⟨b20, b21⟩ := byteAt_lt bs (at_ + 2)
  obtain ⟨b30, b31⟩ := byteAt_lt bs (at_ + 3)
  have hle : leV bs at_ = leV bs at_ := rfl
  conv at hle => rhs; unfold leV
  obtain ⟨x0, hx0⟩ : ∃ x, x = byteAt bs at_ := ⟨_, rfl⟩
  obtain ⟨x1, hx1⟩ : ∃ x, x = byteAt bs (at_ + 1) := ⟨_, rfl⟩
  obtain ⟨x2, hx2⟩ : ∃ x, x = byteAt bs (at_ + 2) := ⟨_, rfl⟩
  obtain ⟨x3, hx3⟩ : ∃ x, x = byteAt bs (at_ + 3) := ⟨_, rfl⟩
  rw [← hx0] at c0 b00 b01 hle
  rw [← hx1] at c1 b10 b11 hle
  rw [← hx2] at c2 b20 b21 hle
  rw [← hx3] at c3 b30 b31 hle
  have HL := Lib.hid hle
  obtain ⟨n, hn⟩ : ∃ n, n = bs.length := ⟨_, rfl⟩
  rw [← hn] at hv hc hat
  subst hv
  unfold maxLen at hm
  clear hn hx hle hx0 hx1 hx2 hx3
  have hd : decide ((at_ : Int) < 0) = false := by simp
  have hd2 : decide ((n : Int) < (at_ : Int)) = false := by simp; omega
  have hd3 : decide ((n : Int) - (at_ : Int) < 4) = false := by simp; omega
  go_enter Tryd.func25, Tryd.ntmps25
  go_wp2
  go_quiet (fail)
  all_goals (try go_wp2)
  all_goals go_ret2
  all_goals (rw [HL.out]; exact ⟨rfl, below_drewN (Below.refl _ _) _⟩)
theorem rget_any (v : Value) (bs : List UInt8) (at_ : Int) (w : World) (h : Sl w w.heap.size v (bv bs)) :
    Calls Tryd.prog 25 #[v, .int .i64 at_] w fun e w' => e = .returned (.tuple #[.int .u32 (getV bs at_), .int .i64 (getE bs at_)]) ∧ Below w.heap.size w w' := by
  by_cases h1 : at_ < 0 ∨ (bs.length : Int) < at_
  · have e : getE bs at_ = 1 := by unfold getE; rw [if_pos (by omega)]
    have e2 : getV bs at_ = 0 := by unfold getV; rw [e]; rfl
    rw [e, e2]; exact rget_arg v bs at_ w h h1
  · obtain ⟨k, rfl⟩ := Int.eq_ofNat_of_zero_le (show 0 ≤ at_ by omega)
    by_cases h2 : bs.length < k + 4
    · have e : getE bs k = 2 := by unfold getE; rw [if_neg (by omega), if_pos (by omega)]
      have e2 : getV bs k = 0 := by unfold getV; rw [e]; rfl
      rw [e, e2]; exact rget_short v bs k w h (by omega) h2
    · have e : getE bs k = 0 := by unfold getE; rw [if_neg (by omega), if_neg (by omega)]
      have e2 : getV bs k = leV bs k := by unfold getV; rw [e, if_pos rfl, Int.toNat_natCast]
      rw [e, e2]; exact rget_ok v bs k w h (by omega)

theorem own_form {w : World} {B n s : Nat} {e : TypeId} {v : Value} {xs : List Value} (h : w.ownsRow B e s v n xs) : ∃ A c, v = .slice A n c ∧ n ≤ c ∧ c ≤ maxLen := by
  rcases h.2 with ⟨rfl, rfl⟩ | ⟨g, cap, cur, rfl, _, _, hn, hcm, _, _⟩
  · exact ⟨none, 0, rfl, Nat.le_refl _, by unfold maxLen; omega⟩
  · exact ⟨_, _, rfl, hn, hcm⟩
theorem own_blk {w : World} {B g n : Nat} {xs : List Value} (h : Blk w g 5 xs.toArray) (hB : B ≤ g) (hn : xs.length = n) (hm : n ≤ maxLen) : w.ownsRow B 5 1 (.slice (some ⟨g, 0, none⟩) n n) n xs :=
  ⟨by omega, .inr ⟨g, n, xs.toArray, rfl, hB, h, Nat.le_refl _, hm, by simpa using hn, by simp [← hn]⟩⟩

def RPutRel (B n m : Nat) (xs : List UInt8) (v : Value) (wr : World) (w : World) : Prop :=
  ∃ k : Nat, k ≤ m ∧ wr.ownsRow B 5 1 v (n + k) (bv (xs ++ List.replicate k 0)) ∧ Below B w wr
set_option maxHeartbeats 1600000 in
theorem rputs_any (s : ByteArray) (w : World) (hs : s.size ≤ 65536) :
    Calls Tryd.prog 32 #[.string s] w fun e w' => ∃ v', e = .returned v' ∧ w'.ownsRow w.heap.size 5 1 v' (encB s.data.toList).length (bv (encB s.data.toList)) ∧ Below w.heap.size w w' := by
  obtain ⟨i, hi, hz, hs1, hby⟩ := info_parts Tryd.infoU8
  have hsl : s.data.toList.length = s.size := by rw [Array.length_toList]; rfl
  obtain ⟨m, hm⟩ : ∃ m, m = fillN s.size - s.size := ⟨_, rfl⟩
  have hm4 : m ≤ 4 := by have := fillN_lt s.size; omega
  have hmod : (s.size + m) % 4 = 0 := by rw [hm]; unfold fillN; omega
  have hmin : ∀ k, k < m → (4 + s.size + k) % 4 ≠ 0 := fun k hk => by rw [hm] at hk; unfold fillN at hk; omega
  have HM := Lib.hid hm
  have HSL := Lib.hid hsl
  have HMOD := Lib.hid hmod
  have HMIN := Lib.hid hmin
  clear hm hsl hmod hmin
  go_enter Tryd.func32, Tryd.ntmps32
  go_wp2_with fail
  refine (rput_any s.size w (by omega) (by omega)).mono ?_
  rintro e w1 ⟨rfl, hblk, hb1⟩
  have HO1 := Lib.hid (own_blk hblk (Nat.le_refl _) (by rw [bv_length, le4_length]) (by unfold maxLen; omega))
  clear hblk
  have hb1s := hb1.size
  go_wp2_with (
    at_builtin
    refine wpList_app rfl _ _ _ _ rfl _ _ rfl rfl (fun v' w' => Hid (w'.ownsRow w.heap.size 5 1 v' (4 + s.size) (bv (le4 s.size) ++ bv s.data.toList) ∧ Below w.heap.size w1 w')) ?hrun ?_
    case hrun =>
      obtain ⟨v', w', hr, h2, h3⟩ := run_app_str (ty := 23) Tryd.underlying23 Tryd.underlying9 hi hz hs1 hby HO1.out s hb1s (by omega)
      exact ⟨v', w', hr, h2, h3⟩
    intro v2 w2 hR2)
  have hb2 : Below w.heap.size w w2 := hb1.trans hR2.out.2
  have HB2 := Lib.hid hb2
  clear hb2
  go_loopw [3] (fun v wr => RPutRel w.heap.size (4 + s.size) m (le4 s.size ++ s.data.toList) v wr w) (fun v _ => match v with | .slice _ n _ => 4 + s.size + m - n | _ => 0)
  case atStart => exact ⟨0, Nat.zero_le _, by simpa [bv_append] using hR2.out.1, HB2.out⟩
  case round =>
    obtain ⟨k, hk, hown, hb⟩ := hrel
    have HO := Lib.hid hown
    obtain ⟨A, c, rfl, hc, hcm⟩ := own_form hown
    unfold maxLen at hcm
    have HB := Lib.hid hb
    have hbs := hb.size
    obtain ⟨q, hq⟩ : ∃ q, q = 4 + s.size + k := ⟨_, rfl⟩
    clear hown hb
    rw [← hq] at hc HO ⊢
    by_cases hlt : k < m
    · have hqm : ((q : Int) % 4 != 0) = true := by rw [bne_iff_ne]; have := HMIN.out k hlt; omega
      have HQ := Lib.hid hq
      have hq2 : q ≤ 70000 := by omega
      clear hq
      go_wp2_with (
        at_builtin
        refine wpList_app rfl _ _ _ _ rfl _ _ rfl rfl (fun v' w' => Hid (w'.ownsRow w.heap.size 5 1 v' (q + 1) (bv (le4 s.size ++ s.data.toList ++ List.replicate (k + 1) 0)) ∧ Below w.heap.size wr w')) ?hrun ?_
        case hrun =>
          have hlit := sl_lit wr 5 [.int .u8 0] 1 rfl (by unfold maxLen; omega)
          obtain ⟨v', w', hr, h2, h3⟩ := run_app_own (ty := 23) Tryd.underlying23 hi hz hs1 rfl (HO.out.alloc (.cells [Value.int .u8 0].toArray 5)) hlit (by simp [Value.oneCell']) (by simp; omega) ⟨by omega, .inr hby⟩
          refine ⟨v', w', hr, ?_, ((Below.refl w.heap.size wr).alloc hbs _).trans h3⟩
          rw [List.replicate_succ', ← List.append_assoc, bv_append]
          exact h2
        intro v3 w3 hR3)
      obtain ⟨A3, c3, rfl, _, _⟩ := own_form hR3.out.1
      go_roundw
      case rel => exact ⟨k + 1, by omega, by rw [show 4 + s.size + (k + 1) = q + 1 from by have := HQ.out; omega]; exact hR3.out.1, HB.out.trans hR3.out.2⟩
      case measure => have := HQ.out; simp; omega
    · obtain rfl : k = m := by omega
      have hqm : ((q : Int) % 4 != 0) = false := by rw [bne_eq_false_iff_eq]; have := HMOD.out; omega
      have HQ := Lib.hid hq
      clear hq
      go_wp2
      go_ret
      refine ⟨_, rfl, ?_, HB.out⟩
      have h := HO.out
      have e1 : encB s.data.toList = le4 s.size ++ s.data.toList ++ List.replicate k 0 := by
        simp [encB, HSL.out, HM.out]
      have e2 : (encB s.data.toList).length = q := by
        rw [encB_length, HSL.out, HQ.out, HM.out]; have := fillN_ge s.size; omega
      rw [e2, e1]; exact h
set_option maxHeartbeats 400000 in
theorem rputList_any (s : ByteArray) (w : World) (hs : s.size ≤ 65536) :
    Calls Tryd.prog 20 #[.string s] w fun e w' => ∃ v', e = .returned v' ∧ w'.ownsRow w.heap.size 5 1 v' (encB s.data.toList).length (bv (encB s.data.toList)) ∧ Below w.heap.size w w' := by
  go_enter Tryd.func20, Tryd.ntmps20
  go_wp2_with fail
  refine (rputs_any s w hs).mono ?_
  rintro e w1 ⟨v1, rfl, hown1, hb1⟩
  have HO := Lib.hid hown1
  clear hown1
  go_wp2
  go_ret
  exact ⟨_, rfl, HO.out, hb1⟩
set_option maxHeartbeats 400000 in
theorem rputText_any (s : ByteArray) (w : World) (hs : s.size ≤ 65535) :
    Calls Tryd.prog 19 #[.string s] w fun e w' => ∃ v', e = .returned v' ∧ w'.ownsRow w.heap.size 5 1 v' (encB (s.data.toList ++ [0])).length (bv (encB (s.data.toList ++ [0]))) ∧ Below w.heap.size w w' := by
  go_enter Tryd.func19, Tryd.ntmps19
  go_wp2_with fail
  have e1 : (s ++ ⟨#[0]⟩ : ByteArray).data.toList = s.data.toList ++ [0] := by simp
  have e2 : (s ++ ⟨#[0]⟩ : ByteArray).size = s.size + 1 := by rw [ByteArray.size_append]; rfl
  refine (rputs_any _ w (by omega)).mono ?_
  rintro e w1 ⟨v1, rfl, hown1, hb1⟩
  rw [e1] at hown1
  clear e1 e2
  have HO := Lib.hid hown1
  clear hown1
  go_wp2
  go_ret
  exact ⟨_, rfl, HO.out, hb1⟩
end Go.Proofs.YtnaagmjjnapklaaDoor
