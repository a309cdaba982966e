/- The walk over tableaulaw10.MemoryWords. -/
import Derived.Test.YtagjmkgbfbaekaaDoorMemA
import Derived.Test.YtagjmkgbfbaekaaDoorFour
import Derived.Deep.CutRange
namespace Go.Proofs.YtagjmkgbfbaekaaDoor
open Go.RowKit
set_option maxRecDepth 100000

def bsAt (zs : List Int) (k : Nat) : List UInt8 := cat4 (zs.take k) ++ List.replicate (4 * (zs.length - k)) 0
theorem bsAt_zero (zs : List Int) : bsAt zs 0 = List.replicate (4 * zs.length) 0 := by simp [bsAt, cat4]
theorem bsAt_full (zs : List Int) : bsAt zs zs.length = cat4 zs := by simp [bsAt]
theorem bsAt_length (zs : List Int) (k : Nat) (h : k ≤ zs.length) : (bsAt zs k).length = 4 * zs.length := by simp [bsAt, cat4_length]; omega
theorem bsAt_step (zs : List Int) (k : Nat) (h : k < zs.length) : over (bsAt zs k) (4 * k) (le4 zs[k]) = bsAt zs (k + 1) := by
  have hl : (cat4 (zs.take k)).length = 4 * k := by rw [cat4_length]; simp; omega
  unfold over bsAt
  rw [cat4_snoc zs k h, List.take_left' hl, List.append_assoc, ← List.drop_drop, List.drop_left' hl, le4_length]
  simp only [List.drop_replicate]
  rw [show 4 * (zs.length - k) - 4 = 4 * (zs.length - (k + 1)) by omega]
theorem byteAt_cat (zs : List Int) (k j : Nat) (h : k < zs.length) (hj : j < 4) : byteAt (cat4 zs) (4 * k + j) = byteAt (le4 zs[k]) j := by
  have e : cat4 zs = cat4 (zs.take k) ++ (le4 zs[k] ++ cat4 (zs.drop (k + 1))) := by
    rw [← List.append_assoc, ← cat4_snoc zs k h, cat4, cat4, cat4, ← List.flatMap_append, List.take_append_drop]
  have hl : (cat4 (zs.take k)).length = 4 * k := by rw [cat4_length]; simp; omega
  unfold byteAt
  rw [e, List.getElem?_append_right (by omega), hl, Nat.add_sub_cancel_left, List.getElem?_append_left (by rw [le4_length]; exact hj)]
theorem bAt_cat (zs : List Int) (hz : ∀ k (h : k < zs.length), 0 ≤ zs[k] ∧ zs[k] < 4294967296) (k : Nat) (h : k < zs.length) :
    bAt (cat4 zs) (4 * (k : Int)) = zs[k] % 256 ∧ bAt (cat4 zs) (4 * (k : Int) + 1) = zs[k] / 256 % 256 ∧ bAt (cat4 zs) (4 * (k : Int) + 2) = zs[k] / 65536 % 256 ∧ bAt (cat4 zs) (4 * (k : Int) + 3) = zs[k] / 16777216 % 256 := by
  have hl := cat4_length zs
  obtain ⟨z0, z1⟩ := hz k h
  have e : ∀ j : Nat, j < 4 → bAt (cat4 zs) (4 * (k : Int) + j) = byteAt (le4 zs[k]) j := fun j hj => by
    unfold bAt
    rw [if_pos (by omega), show (4 * (k : Int) + j).toNat = 4 * k + j by omega, byteAt_cat zs k j h hj]
  have e0 : byteAt (le4 zs[k]) 0 = zs[k] % 256 := byte_val _ (by omega) (by omega)
  have e1 : byteAt (le4 zs[k]) 1 = zs[k] / 256 % 256 := byte_val _ (by omega) (by omega)
  have e2 : byteAt (le4 zs[k]) 2 = zs[k] / 65536 % 256 := byte_val _ (by omega) (by omega)
  have e3 : byteAt (le4 zs[k]) 3 = zs[k] / 16777216 % 256 := byte_val _ (by omega) (by omega)
  refine ⟨?_, ?_, ?_, ?_⟩
  · rw [← e0]; exact (by simpa using e 0 (by omega))
  · rw [← e1]; exact e 1 (by omega)
  · rw [← e2]; exact e 2 (by omega)
  · rw [← e3]; exact e 3 (by omega)
theorem bAt_out (bs : List UInt8) (k : Int) (h : k < 0 ∨ (bs.length : Int) ≤ k) : bAt bs k = 0 := by unfold bAt; rw [if_neg (by omega)]
theorem wordB_eq (bs : List UInt8) (a : Int) : wordB bs a = bAt bs a + bAt bs (a + 1) * 256 + bAt bs (a + 2) * 65536 + bAt bs (a + 3) * 16777216 := rfl
theorem wordB_nil (a : Int) : wordB [] a = 0 := by
  rw [wordB_eq, bAt_out _ _ (by simp; omega), bAt_out _ _ (by simp; omega), bAt_out _ _ (by simp; omega), bAt_out _ _ (by simp; omega)]
  rfl
section
variable (zs : List Int) (hz : ∀ k (h : k < zs.length), 0 ≤ zs[k] ∧ zs[k] < 4294967296)
 include hz
theorem wordB_at (k : Nat) (h : k < zs.length) : wordB (cat4 zs) (4 * (k : Int)) = zs[k] := by
  obtain ⟨z0, z1⟩ := hz k h
  obtain ⟨b0, b1, b2, b3⟩ := bAt_cat zs hz k h
  rw [wordB_eq, b0, b1, b2, b3]
  omega
theorem wordB_mid (k : Nat) (h : k + 1 < zs.length) : wordB (cat4 zs) (4 * (k : Int) + 2) = zs[k] / 65536 + zs[k + 1] % 65536 * 65536 := by
  obtain ⟨z0, z1⟩ := hz k (by omega)
  obtain ⟨y0, y1⟩ := hz (k + 1) h
  obtain ⟨b0, b1, b2, b3⟩ := bAt_cat zs hz k (by omega)
  obtain ⟨c0, c1, c2, c3⟩ := bAt_cat zs hz (k + 1) h
  rw [wordB_eq, b2, show 4 * (k : Int) + 2 + 1 = 4 * (k : Int) + 3 by omega, b3, show 4 * (k : Int) + 2 + 2 = 4 * ((k + 1 : Nat) : Int) by omega, c0, show 4 * (k : Int) + 2 + 3 = 4 * ((k + 1 : Nat) : Int) + 1 by omega, c1]
  omega
theorem wordB_last (k : Nat) (h : k + 1 = zs.length) : wordB (cat4 zs) (4 * (k : Int) + 2) = zs[k] / 65536 := by
  have hl := cat4_length zs
  obtain ⟨z0, z1⟩ := hz k (by omega)
  obtain ⟨b0, b1, b2, b3⟩ := bAt_cat zs hz k (by omega)
  rw [wordB_eq, b2, show 4 * (k : Int) + 2 + 1 = 4 * (k : Int) + 3 by omega, b3, bAt_out _ _ (by omega), bAt_out _ _ (by omega)]
  omega
 omit hz in
theorem wordB_end : wordB (cat4 zs) (4 * (zs.length : Int)) = 0 := by
  have hl := cat4_length zs
  rw [wordB_eq, bAt_out _ _ (by omega), bAt_out _ _ (by omega), bAt_out _ _ (by omega), bAt_out _ _ (by omega)]
  rfl
theorem wordB_pre (h : 0 < zs.length) : wordB (cat4 zs) (-2) = zs[0] % 65536 * 65536 := by
  obtain ⟨z0, z1⟩ := hz 0 h
  obtain ⟨b0, b1, b2, b3⟩ := bAt_cat zs hz 0 h
  rw [wordB_eq, bAt_out _ _ (by omega), bAt_out _ _ (by omega), show (-2 : Int) + 2 = 4 * ((0 : Nat) : Int) by omega, b0, show (-2 : Int) + 3 = 4 * ((0 : Nat) : Int) + 1 by omega, b1]
  omega
end
def one7 (b : Nat) (bs : List UInt8) : List Ent := [(7, b, bs)]
theorem put7 (b b' : Nat) (bs bs' : List UInt8) : put (one7 b bs) 7 (b', bs') = one7 b' bs' := by simp [put, one7]
theorem old7 (b : Nat) (bs : List UInt8) : old (one7 b bs) 7 = bs := by simp [old, has, look, one7]
theorem look7 (b : Nat) (bs : List UInt8) : look (one7 b bs) 7 = some (0, b, bs) := by simp [look, one7]
theorem small7 (b : Nat) (bs : List UInt8) (h : bs.length ≤ 65536) : Small (one7 b bs) := by intro x hx; simp [one7] at hx; subst hx; exact h
theorem old8 (b : Nat) (bs : List UInt8) : old (one7 b bs) 8 = [] := by simp [old, has, look, one7]
theorem size7 (b : Nat) (bs : List UInt8) : sizeM (one7 b bs) 7 = bs.length := by simp [sizeM, has, look, one7]

def WRel1 (w : World) (B g m : Nat) (zs : List Int) (a : Value) (wr : World) : Prop := ∃ k : Nat, k ≤ zs.length ∧ a = .int .i64 k ∧ (∃ b, MemIs wr B g m (one7 b (bsAt zs k))) ∧ Below w.heap.size w wr
def WRel2 (w : World) (B g m b : Nat) (zs : List Int) (a : Value) (wr : World) : Prop := ∃ k : Nat, k ≤ zs.length ∧ a = .int .i64 k ∧ MemIs wr B g m (one7 b (cat4 zs)) ∧ Below w.heap.size w wr

set_option maxHeartbeats 6400000 in
theorem mwords_walk (A : Nat → Addr) (v : Value) (zs0 : List Int) (w : World) (_ : Errs w w.heap.size [1, 8, 9] A) (h : Sl w w.heap.size v (zs0.map (Value.int .u32)) ∧ (∀ n ∈ zs0, (Lit.int .u32 n).wf = true) ∧ zs0.length * 4 ≤ 140737488351232) :
    Calls Tryd.prog 3 #[v] w fun e w' => e = .returned (.bool true) ∧ Below w.heap.size w w' := by
  obtain ⟨h, hz, _⟩ := h
  obtain ⟨_, Ad, c, hv, hc, hm, _, hx⟩ := h
  rw [List.length_map] at hv hc hx
  obtain ⟨zs, hzs⟩ : ∃ z, z = zs0.take 100 := ⟨_, rfl⟩
  have hn : zs.length = min 100 zs0.length := by rw [hzs, List.length_take]
  have hx' : ∀ k (hk : k < zs.length), ∃ b off, Ad = some ⟨b, off, none⟩ ∧ b < w.heap.size ∧ w.cell? ⟨b, off + k, none⟩ = some (.int .u32 zs[k]) ∧ 0 ≤ zs[k] ∧ zs[k] < 4294967296 := by
    intro k hk
    obtain ⟨b, off, hA, hB, hx⟩ := hx (by omega)
    have e : zs[k] = zs0[k]'(by omega) := by subst hzs; simp
    have := bounds_u32 (hz zs[k] (by rw [e]; exact List.getElem_mem _))
    refine ⟨b, off, hA, hB, hx k _ ?_, by omega, by omega⟩
    rw [List.getElem?_map, List.getElem?_eq_getElem (show k < zs0.length by omega), e]; rfl
  have HX := Lib.hid hx'
  obtain ⟨n0, hn0⟩ : ∃ n, n = zs0.length := ⟨_, rfl⟩
  obtain ⟨n, hnn⟩ : ∃ n, n = zs.length := ⟨_, rfl⟩
  rw [← hn0] at hv hc hn
  rw [← hnn] at hn
  subst hv
  unfold maxLen at hm
  have HN := Lib.hid hnn
  have hn100 : n ≤ 100 := by omega
  have hnle : n ≤ n0 := by omega
  have hcut : (100 < n0 ∧ n = 100) ∨ (n0 ≤ 100 ∧ n = n0) := by omega
  clear hx hx' hz hzs hn0 hnn hn
  go_enter Tryd.func3, Tryd.ntmps3
  go_upto_if 10 with (fail)
  go_cut [0] from 11 to 12 (fun s0 wc => w = wc ∧ ∃ c', n ≤ c' ∧ c' ≤ 9223372036854775807 ∧ s0 = .slice Ad n c')
  case first =>
    rcases hcut with ⟨h1, rfl⟩ | ⟨h1, rfl⟩
    · have hd : decide (100 < (n0 : Int)) = true := by simp; omega
      go_wp2_with fail
      go_meet
      case rel => exact ⟨rfl, c, by omega, by omega, rfl⟩
    · have hd : decide (100 < (n : Int)) = false := by simp; omega
      go_wp2_with fail
      go_meet
      case rel => exact ⟨rfl, c, by omega, by omega, rfl⟩
  case rest =>
    obtain ⟨rfl, c', hc1, hc2, rfl⟩ := hcut
    clear hcut hc hm hnle
    have HZ : Hid (∀ k (h : k < zs.length), 0 ≤ zs[k] ∧ zs[k] < 4294967296) := fun k h => by
      obtain ⟨_, _, _, _, _, h1, h2⟩ := HX.out k h
      exact ⟨h1, h2⟩
    go_wp2_with fail
    refine (mnew_any _).mono ?_
    rintro e w1 ⟨rfl, hm1, hb1⟩
    obtain ⟨g, hg⟩ : ∃ g, g = w.heap.size + 1 := ⟨_, rfl⟩
    obtain ⟨m, hm⟩ : ∃ g, g = w.heap.size := ⟨_, rfl⟩
    rw [← hg] at hm1 ⊢
    have HM1 : Hid (MemIs w1 w.heap.size g m []) := by rw [hm]; exact hm1
    have HB1 := Lib.hid hb1
    clear hm1 hb1 hg hm
    go_wp2_with fail
    refine (mset_ok w.heap.size g m [] 7 (4 * (n : Int)) w1 HM1.out small_nil (by omega) (by omega) (by omega) (by omega) HB1.out.size).mono ?_
    rintro e w2 ⟨rfl, hm2, hst2⟩
    obtain ⟨b0, hb0⟩ : ∃ b, b = w1.heap.size := ⟨_, rfl⟩
    rw [← hb0] at hm2 hst2
    have HB2 := Lib.hid (hst2.below HM1.out HB1.out HB1.out.size)
    have e1 : put [] 7 (b0, setB (old [] 7) (4 * (n : Int)).toNat) = one7 b0 (bsAt zs 0) := by
      rw [bsAt_zero, ← HN.out]
      have : (4 * (n : Int)).toNat = 4 * n := by omega
      rw [this]
      simp [put, one7, setB, old, has, look, over]
    rw [e1] at hm2
    have HM2 := Lib.hid hm2
    clear hm2 hst2 e1 hb0
    go_wp2_with fail
    go_loopw [4] (WRel1 w w.heap.size g m zs) (fun a _ => n - (intOf a).toNat)
    case atStart => exact ⟨0, Nat.zero_le _, rfl, ⟨b0, HM2.out⟩, HB2.out⟩
    case round =>
      obtain ⟨k, hk, rfl, ⟨b, hm⟩, hb⟩ := hrel
      have HM := Lib.hid hm
      have HB := Lib.hid hb
      have hkn : k ≤ n := by rw [HN.out]; exact hk
      clear hm hb hk
      by_cases hlt : k < n
      · obtain ⟨xb, xo, rfl, hxB, hxc, z0, z1⟩ := HX.out k (by rw [← HN.out]; exact hlt)
        have hcr : wr.cell? ⟨xb, xo + k, none⟩ = some (.int .u32 (zs[k]'(by rw [← HN.out]; exact hlt))) := (HB.out.cell (p := ⟨xb, xo + k, none⟩) hxB).trans hxc
        obtain ⟨y, hy⟩ : ∃ y, y = (zs[k]'(by rw [← HN.out]; exact hlt)) := ⟨_, rfl⟩
        rw [← hy] at hcr z0 z1
        have HY := Lib.hid hy
        clear hxc hy
        go_wp2_with fail
        have hsl := lits_sl (w := wr) (cs := #[.int .u8 (y % 256), .int .u8 (y / 256 % 256), .int .u8 (y / 65536 % 256), .int .u8 (y / 16777216)]) (f := (0, 0)) 4 (le4 y) rfl (by omega) (by rw [bv_le4 y z0 z1])
        have hm3 := HM.out.below ((Below.refl wr.heap.size wr).alloc (Nat.le_refl _) (.cells #[.int .u8 (y % 256), .int .u8 (y / 256 % 256), .int .u8 (y / 65536 % 256), .int .u8 (y / 16777216)] 5))
        have HB3 := Lib.hid (HB.out.alloc HB.out.size (.cells #[.int .u8 (y % 256), .int .u8 (y / 256 % 256), .int .u8 (y / 65536 % 256), .int .u8 (y / 16777216)] 5))
        generalize (wr.alloc (Obj.cells _ _)) = w3 at hsl hm3 HB3 ⊢
        have hlen := bsAt_length zs k (by rw [← HN.out]; exact hkn)
        have hlen2 : (bsAt zs k).length = 4 * n := by rw [hlen, HN.out]
        have HLE := Lib.hid hlen2
        clear hlen hlen2
        refine (mwrite_okI w.heap.size g m _ 7 (4 * (k : Int)) (4 * k) (by omega) _ (le4 y) w3 hm3 (small7 _ _ (by rw [HLE.out]; omega)) hsl (look7 _ _) (by rw [HLE.out, le4_length]; omega)).mono ?_
        rintro e w4 ⟨rfl, hm4, hst4⟩
        have hput : put (one7 b (bsAt zs k)) 7 (b, over (bsAt zs k) (4 * k) (le4 y)) = one7 b (bsAt zs (k + 1)) := by
          rw [put7, HY.out, bsAt_step zs k (by rw [← HN.out]; exact hlt)]
        have HB4 := Lib.hid (hst4.below hm3 HB3.out HB3.out.size)
        rw [hput] at hm4
        have HM4 := Lib.hid hm4
        clear hst4 hput hm4 hm3 hsl
        go_wp2_with fail
        go_roundw
        case rel => exact ⟨k + 1, by rw [← HN.out]; omega, by go_num, ⟨b, HM4.out⟩, HB4.out⟩
        case measure => simp [intOf]; omega
      · obtain rfl : k = n := by omega
        have hm5 : MemIs wr w.heap.size g m (one7 b (cat4 zs)) := by
          have := HM.out
          rwa [HN.out, bsAt_full] at this
        have HM5 := Lib.hid hm5
        clear hm5 HM
        have hlc : (cat4 zs).length = 4 * k := by rw [cat4_length, ← HN.out]
        have HLC := Lib.hid hlc
        have HSM := Lib.hid (small7 b (cat4 zs) (by rw [hlc]; omega))
        clear hlc
        go_wp2_with fail
        go_loopw [6] (WRel2 w w.heap.size g m b zs) (fun a _ => k - (intOf a).toNat)
        case atStart => exact ⟨0, Nat.zero_le _, rfl, HM5.out, HB.out⟩
        case round =>
          clear HB HM5
          obtain ⟨i, hi, rfl, hm, hb⟩ := hrel
          have HM := Lib.hid hm
          have HB := Lib.hid hb
          have hik : i ≤ k := by rw [HN.out]; exact hi
          clear hm hb hi
          by_cases hlt : i < k
          · obtain ⟨xb, xo, rfl, hxB, hxc, z0, z1⟩ := HX.out i (by rw [← HN.out]; exact hlt)
            have hcr : ∀ x : Later wr, x.w.cell? ⟨xb, xo + i, none⟩ = some (.int .u32 (zs[i]'(by rw [← HN.out]; exact hlt))) := fun x => x.cell ((HB.out.cell (p := ⟨xb, xo + i, none⟩) hxB).trans hxc)
            have hcq : wr.cell? ⟨xb, xo + i, none⟩ = some (.int .u32 (zs[i]'(by rw [← HN.out]; exact hlt))) := (HB.out.cell (p := ⟨xb, xo + i, none⟩) hxB).trans hxc
            have hwa := wordB_at zs HZ.out i (by rw [← HN.out]; exact hlt)
            obtain ⟨y, hy⟩ : ∃ y, y = (zs[i]'(by rw [← HN.out]; exact hlt)) := ⟨_, rfl⟩
            rw [← hy] at hcq z0 z1 hwa
            simp only [← hy] at hcr
            have HY := Lib.hid hy
            have HWA := Lib.hid hwa
            clear hxc hy hwa
            have MW : Hid (∀ x : Later wr, Calls Tryd.prog 17 #[.pointer (some ⟨g, 0, none⟩), .int .i64 7, .int .i64 (4 * (i : Int))] x.w fun e w' => e = .returned (.int .u32 y) ∧ x.w = w') := fun x => by
              have := mword_any w.heap.size g m _ 7 (4 * (i : Int)) x.w (HM.out.below x.h) HSM.out (by omega) (by omega)
              rwa [old7, HWA.out] at this
            by_cases hlt2 : i + 1 < k
            · obtain ⟨xb', xo', hxa, _, hxc, y0, y1⟩ := HX.out (i + 1) (by rw [← HN.out]; exact hlt2)
              simp only [Option.some.injEq, Addr.mk.injEq, and_true] at hxa
              obtain ⟨rfl, rfl⟩ := hxa
              have hcq2 : wr.cell? ⟨xb, xo + (i + 1), none⟩ = some (.int .u32 (zs[i + 1]'(by rw [← HN.out]; exact hlt2))) := (HB.out.cell (p := ⟨xb, xo + (i + 1), none⟩) hxB).trans hxc
              have hwm := wordB_mid zs HZ.out i (by rw [← HN.out]; exact hlt2)
              obtain ⟨y', hy'⟩ : ∃ y, y = (zs[i + 1]'(by rw [← HN.out]; exact hlt2)) := ⟨_, rfl⟩
              rw [← hy'] at hcq2 y0 y1 hwm
              rw [← HY.out] at hwm
              clear hxc hy'
              obtain ⟨hv, hhv⟩ : ∃ h, h = y / 65536 + y' * 65536 % 4294967296 := ⟨_, rfl⟩
              have hwm' : wordB (cat4 zs) (4 * (i : Int) + 2) = hv := by rw [hwm, hhv]; omega
              have MH : Hid (∀ x : Later wr, Calls Tryd.prog 17 #[.pointer (some ⟨g, 0, none⟩), .int .i64 7, .int .i64 (4 * (i : Int) + 2)] x.w fun e w' => e = .returned (.int .u32 hv) ∧ x.w = w') := fun x => by
                have := mword_any w.heap.size g m _ 7 (4 * (i : Int) + 2) x.w (HM.out.below x.h) HSM.out (by omega) (by omega)
                rwa [old7, hwm'] at this
              have HHV := Lib.hid hhv
              clear hwm hwm' hhv
              go_wp2_with fail
              rw [← HHV.out]
              refine wp_region_later_lit (by kernel_rfl) (by kernel_rfl) ?_
              repeat (any_goals (go_big_quiet_step (first
                | with_reducible exact later_same (MW.out _)
                | with_reducible exact later_same (MH.out _))))
              refine wpQuiet_nil ?_
              intro _ hw'
              obtain ⟨x, hw''⟩ := hw'
              subst hw''
              go_wp2_with fail
              go_roundw
              case rel => exact ⟨i + 1, by rw [← HN.out]; omega, by go_num, HM.out.below x.h, x.after HB.out HB.out.size⟩
              case measure => simp [intOf]; omega
            · have hd2 : decide ((i : Int) + 1 < (k : Int)) = false := by simp; omega
              have hwm := wordB_last zs HZ.out i (by rw [← HN.out]; omega)
              rw [← HY.out] at hwm
              obtain ⟨hv, hhv⟩ : ∃ h, h = y / 65536 := ⟨_, rfl⟩
              have hwm' : wordB (cat4 zs) (4 * (i : Int) + 2) = hv := by rw [hwm, hhv]
              have MH : Hid (∀ x : Later wr, Calls Tryd.prog 17 #[.pointer (some ⟨g, 0, none⟩), .int .i64 7, .int .i64 (4 * (i : Int) + 2)] x.w fun e w' => e = .returned (.int .u32 hv) ∧ x.w = w') := fun x => by
                have := mword_any w.heap.size g m _ 7 (4 * (i : Int) + 2) x.w (HM.out.below x.h) HSM.out (by omega) (by omega)
                rwa [old7, hwm'] at this
              have HHV := Lib.hid hhv
              clear hwm hwm' hhv
              go_wp2_with fail
              rw [← HHV.out]
              refine wp_region_later_lit (by kernel_rfl) (by kernel_rfl) ?_
              repeat (any_goals (go_big_quiet_step (first
                | with_reducible exact later_same (MW.out _)
                | with_reducible exact later_same (MH.out _))))
              refine wpQuiet_nil ?_
              intro _ hw'
              obtain ⟨x, hw''⟩ := hw'
              subst hw''
              go_wp2_with fail
              go_roundw
              case rel => exact ⟨i + 1, by rw [← HN.out]; omega, by go_num, HM.out.below x.h, x.after HB.out HB.out.size⟩
              case measure => simp [intOf]; omega
          · obtain rfl : i = k := by omega
            have M1 : Hid (∀ x : Later wr, Calls Tryd.prog 17 #[.pointer (some ⟨g, 0, none⟩), .int .i64 7, .int .i64 (4 * (i : Int))] x.w fun e w' => e = .returned (.int .u32 0) ∧ x.w = w') := fun x => by
              have := mword_any w.heap.size g m _ 7 (4 * (i : Int)) x.w (HM.out.below x.h) HSM.out (by omega) (by omega)
              have e := wordB_end zs
              rw [← HN.out] at e
              rwa [old7, e] at this
            have M2 : Hid (∀ x : Later wr, Calls Tryd.prog 17 #[.pointer (some ⟨g, 0, none⟩), .int .i64 8, .int .i64 0] x.w fun e w' => e = .returned (.int .u32 0) ∧ x.w = w') := fun x => by
              have := mword_any w.heap.size g m _ 8 0 x.w (HM.out.below x.h) HSM.out (by omega) (by omega)
              rwa [old8, wordB_nil] at this
            have M3 : Hid (∀ x : Later wr, Calls Tryd.prog 18 #[.pointer (some ⟨g, 0, none⟩), .int .i64 7] x.w fun e w' => e = .returned (.int .i64 (4 * (i : Int))) ∧ x.w = w') := fun x => by
              have := msize_any w.heap.size g m _ 7 x.w (HM.out.below x.h)
              rw [size7, HLC.out] at this
              simpa using this
            have M4 : Hid (∀ x : Later wr, Calls Tryd.prog 19 #[.int .i64 (i : Int), .int .i64 1] x.w fun e w' => e = .returned (.int .i64 0) ∧ x.w = w') := fun x => by
              have := place_any (i : Int) 1 x.w (by omega) (by omega)
              rwa [Int.emod_one] at this
            rcases Nat.eq_zero_or_pos i with rfl | hp
            · have e1 : ((0 : Nat) : Int) = 0 := rfl
              simp only [e1, Int.mul_zero] at M1 M3 M4
              have M5 := M4
              clear e1
              go_wp2_with fail
              refine wp_region_later_lit (by kernel_rfl) (by kernel_rfl) ?_
              repeat (any_goals (go_big_quiet_step (first
                | with_reducible exact later_same (M1.out _)
                | with_reducible exact later_same (M2.out _)
                | with_reducible exact later_same (M3.out _)
                | with_reducible exact later_same (M4.out _)
                | with_reducible exact later_same (M5.out _)
                | with_reducible exact later_call (mawake_any _))))
              refine wpQuiet_nil ?_
              intro _ hw'
              obtain ⟨x, hw''⟩ := hw'
              subst hw''
              go_wp2
              go_ret
              exact ⟨rfl, x.after HB.out HB.out.size⟩
            · obtain ⟨xb, xo, rfl, hxB, hxc, z0, z1⟩ := HX.out 0 (by rw [← HN.out]; exact hp)
              have hcr : ∀ x : Later wr, x.w.cell? ⟨xb, xo + 0, none⟩ = some (.int .u32 (zs[0]'(by rw [← HN.out]; exact hp))) := fun x => x.cell ((HB.out.cell (p := ⟨xb, xo + 0, none⟩) hxB).trans hxc)
              have hwp := wordB_pre zs HZ.out (by rw [← HN.out]; exact hp)
              obtain ⟨y, hy⟩ : ∃ y, y = (zs[0]'(by rw [← HN.out]; exact hp)) := ⟨_, rfl⟩
              rw [← hy] at z0 z1 hwp
              simp only [← hy] at hcr
              have hcr' : ∀ x : Later wr, x.w.cell? ⟨xb, xo, none⟩ = some (.int .u32 y) := hcr
              have hwp' : wordB (cat4 zs) (-2) = y * 65536 % 4294967296 := by rw [hwp]; omega
              have M5 : Hid (∀ x : Later wr, Calls Tryd.prog 17 #[.pointer (some ⟨g, 0, none⟩), .int .i64 7, .int .i64 (-2)] x.w fun e w' => e = .returned (.int .u32 (y * 65536 % 4294967296)) ∧ x.w = w') := fun x => by
                have := mword_any w.heap.size g m _ 7 (-2) x.w (HM.out.below x.h) HSM.out (by omega) (by omega)
                rwa [old7, hwp'] at this
              have hi0 : ((i : Int) == 0) = false := by rw [beq_eq_false_iff_ne]; omega
              clear hxc hy hwp hwp' hcr
              go_wp2_with fail
              refine wp_region_later_lit (by kernel_rfl) (by kernel_rfl) ?_
              repeat (any_goals (go_big_quiet_step (first
                | with_reducible exact later_same (M1.out _)
                | with_reducible exact later_same (M2.out _)
                | with_reducible exact later_same (M3.out _)
                | with_reducible exact later_same (M4.out _)
                | with_reducible exact later_same (M5.out _)
                | with_reducible exact later_call (mawake_any _))))
              refine wpQuiet_nil ?_
              intro _ hw'
              obtain ⟨x, hw''⟩ := hw'
              subst hw''
              go_wp2
              go_ret
              exact ⟨rfl, x.after HB.out HB.out.size⟩
end Go.Proofs.YtagjmkgbfbaekaaDoor
