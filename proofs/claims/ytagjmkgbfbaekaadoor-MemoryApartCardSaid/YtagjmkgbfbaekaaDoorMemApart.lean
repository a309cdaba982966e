/- The walk over tableaulaw10.MemoryApart. -/
import Derived.Test.YtagjmkgbfbaekaaDoorMemA
import Derived.Test.YtagjmkgbfbaekaaDoorMBytes
namespace Go.Proofs.YtagjmkgbfbaekaaDoor
open Go.RowKit
set_option maxRecDepth 100000

def twoE (b1 : Nat) (x1 : List UInt8) (b2 : Nat) (x2 : List UInt8) : List Ent := [(1, b1, x1), (2, b2, x2)]
theorem put11 (b : Nat) (x : List UInt8) (b2 : Nat) (x2 : List UInt8) : put (put [] 1 (b, x)) 2 (b2, x2) = twoE b x b2 x2 := by simp [put, twoE]
theorem put2_1 (b1 b2 b : Nat) (x1 x2 x : List UInt8) : put (twoE b1 x1 b2 x2) 1 (b, x) = twoE b x b2 x2 := by simp [put, twoE]
theorem put2_2 (b1 b2 b : Nat) (x1 x2 x : List UInt8) : put (twoE b1 x1 b2 x2) 2 (b, x) = twoE b1 x1 b x := by simp [put, twoE]
theorem look2_1 (b1 b2 : Nat) (x1 x2 : List UInt8) : look (twoE b1 x1 b2 x2) 1 = some (0, b1, x1) := by simp [look, twoE]
theorem look2_2 (b1 b2 : Nat) (x1 x2 : List UInt8) : look (twoE b1 x1 b2 x2) 2 = some (1, b2, x2) := by simp [look, twoE]
theorem small2 (b1 b2 : Nat) (x1 x2 : List UInt8) (h1 : x1.length ≤ 65536) (h2 : x2.length ≤ 65536) : Small (twoE b1 x1 b2 x2) := by
  intro x hx
  simp [twoE] at hx
  rcases hx with rfl | rfl
  · exact h1
  · exact h2
theorem over_read (l ys : List UInt8) : readB (over l 0 ys) 0 ys.length = ys := by simp [readB, over]

/-- A row of bytes, whatever they are. -/
def Row8 (w : World) (g n : Nat) : Prop := ∃ cur, Blk w g 5 cur ∧ ∀ j, j < n → ∃ y : Int, cur[j]? = some (.int .u8 y)
section
variable {w w' : World} {B g m x n : Nat} {L : List Ent}
/-- .. and which. -/
def RowB (w : World) (g n : Nat) (us : List UInt8) : Prop := ∃ cur, Blk w g 5 cur ∧ ∀ j, j < n → cur[j]? = some (.int .u8 (byteAt us j))
theorem RowB.row {us : List UInt8} (h : RowB w x n us) : Row8 w x n := by
  obtain ⟨cur, h1, h2⟩ := h
  exact ⟨cur, h1, fun j hj => ⟨_, h2 j hj⟩⟩
theorem RowB.lt {us : List UInt8} (h : RowB w x n us) : x < w.heap.size := by obtain ⟨_, h1, _⟩ := h; exact h1.lt
theorem RowB.grown {us : List UInt8} (h : RowB w x n us) (hg : w'.heap[x]? = w.heap[x]?) : RowB w' x n us := by
  obtain ⟨cur, h1, h2⟩ := h
  exact ⟨cur, hg.trans h1, h2⟩
theorem RowB.sl {us : List UInt8} {A : Option Addr} {c : Nat} (h : 0 < n → A = some ⟨x, 0, none⟩ ∧ RowB w x n us) (hn : n = us.length) (hc : n ≤ c) (hm : c ≤ maxLen) (h0 : A = none → c = 0) : Sl w w.heap.size (.slice A n c) (bv us) := by
  show SlN _ _ _ _ _ _
  rw [bv_length, ← hn]
  refine ⟨by simp [bv_length, hn], A, c, rfl, hc, hm, h0, fun hp => ?_⟩
  obtain ⟨hA, cur, h1, h2⟩ := h hp
  refine ⟨x, 0, hA, h1.lt, fun j u hu => ?_⟩
  have hj : j < us.length := by have := (List.getElem?_eq_some_iff.1 hu).1; simpa [bv_length] using this
  rw [bv_at us j hj] at hu
  rw [h1.cell, Nat.zero_add, h2 j (by omega), ← hu]
theorem Row8.grown (h : Row8 w x n) (hg : x < w.heap.size → w'.heap[x]? = w.heap[x]?) : Row8 w' x n := by
  obtain ⟨cur, h1, h2⟩ := h
  exact ⟨cur, (hg h1.lt).trans h1, h2⟩
theorem Row8.lt (h : Row8 w x n) : x < w.heap.size := by obtain ⟨_, h1, _⟩ := h; exact h1.lt
theorem Row8.set_ (h : Row8 w x n) (i : Nat) (y : Int) : Row8 (w.setCell ⟨x, i, none⟩ (.int .u8 y)) x n := by
  obtain ⟨cur, h1, h2⟩ := h
  refine ⟨_, h1.set_ i _, fun j hj => ?_⟩
  by_cases hij : i = j
  · subst hij
    obtain ⟨y', hy'⟩ := h2 i hj
    exact ⟨y, by rw [Array.getElem?_setIfInBounds_self_of_lt (Array.getElem?_eq_some_iff.1 hy').1]⟩
  · obtain ⟨y', hy'⟩ := h2 j hj
    exact ⟨y', by rw [Array.getElem?_setIfInBounds_ne hij]; exact hy'⟩
theorem MemIs.other (h : MemIs w B g m L) (hx : x ≠ g) (ho : Off x m L) (hg : w.grownBy w' (some x)) : MemIs w' B g m L := by
  obtain ⟨es, c, h1, h2⟩ := h.map
  exact ⟨h.box.grown hg (fun e => hx (by injection e with e; exact e.symm)), ⟨es, c, (hg.block m h.mlt (fun e => ho.1 (by injection e with e; exact e.symm))).trans h1, h2⟩, fun y hy => (h.row y hy).grown hg (fun e => ho.2 y hy (by injection e)), h.low, h.dis⟩
theorem Row8.of_blk {ys : List UInt8} (h : Blk w x 5 (bv ys).toArray) (hn : ys.length = n) : Row8 w x n := ⟨_, h, fun j hj => ⟨_, by simpa using bv_at ys j (by omega)⟩⟩
end
def XRel (w : World) (B g m x n : Nat) (L : List Ent) (a : Value) (wr : World) : Prop := ∃ i : Nat, i ≤ n ∧ a = .int .i64 i ∧ (0 < n → Row8 wr x n) ∧ MemIs wr B g m L ∧ Below w.heap.size w wr

set_option maxHeartbeats 6400000 in
theorem mapart_walk (A : Nat → Addr) (va : Value) (us : List UInt8) (vb : Value) (bs : List UInt8) (w : World) (_ : Errs w w.heap.size [1, 8, 9] A) (ha : Sl w w.heap.size va (bv us) ∧ us.length ≤ 140737488351232) (hb : Sl w w.heap.size vb (bv bs) ∧ bs.length ≤ 140737488351232) :
    Calls Tryd.prog 4 #[va, vb] w fun e w' => e = .returned (.bool true) ∧ Below w.heap.size w w' := by
  obtain ⟨ha, _⟩ := ha
  obtain ⟨hb, _⟩ := hb
  have HVA := Lib.hid ha
  have HVB := Lib.hid hb
  obtain ⟨_, AA, ca, rfl, hca, hma, _, _⟩ := ha
  obtain ⟨_, AB, cb, rfl, hcb, hmb, _, _⟩ := hb
  rw [bv_length] at hca hcb HVA HVB ⊢
  rw [bv_length]
  obtain ⟨p, hp⟩ : ∃ n, n = us.length := ⟨_, rfl⟩
  obtain ⟨q, hq⟩ : ∃ n, n = bs.length := ⟨_, rfl⟩
  rw [← hp] at hca HVA ⊢
  rw [← hq] at hcb HVB ⊢
  unfold maxLen at hma hmb
  have HP := Lib.hid hp
  have HQ := Lib.hid hq
  clear hp hq
  have hcs : 300 < p ∨ (p ≤ 300 ∧ 300 < q) ∨ (p ≤ 300 ∧ q ≤ 300) := by omega
  rcases hcs with h1 | ⟨h1, h2⟩ | ⟨h1, h2⟩
  · have hd : decide (300 < (p : Int)) = true := by simp; omega
    go_enter Tryd.func4, Tryd.ntmps4
    go_wp2_with fail
    refine (mawake_any w).mono ?_
    rintro e w1 ⟨rfl, hb1⟩
    go_wp2
    go_ret
    exact ⟨rfl, hb1⟩
  · have hd : decide (300 < (p : Int)) = false := by simp; omega
    have hd2 : decide (300 < (q : Int)) = true := by simp; omega
    go_enter Tryd.func4, Tryd.ntmps4
    go_wp2_with fail
    refine (mawake_any w).mono ?_
    rintro e w1 ⟨rfl, hb1⟩
    go_wp2
    go_ret
    exact ⟨rfl, hb1⟩
  · have hd : decide (300 < (p : Int)) = false := by simp; omega
    have hd2 : decide (300 < (q : Int)) = false := by simp; omega
    go_enter Tryd.func4, Tryd.ntmps4
    go_wp2_with fail
    refine (mnew_any w).mono ?_
    rintro e w1 ⟨rfl, hm1, hb1⟩
    obtain ⟨g, hg⟩ : ∃ g, g = w.heap.size + 1 := ⟨_, rfl⟩
    obtain ⟨m, hm⟩ : ∃ g, g = w.heap.size := ⟨_, rfl⟩
    rw [← hg] at hm1 ⊢
    have HM1 : Hid (MemIs w1 w.heap.size g m []) := by rw [hm]; exact hm1
    have HB1 := Lib.hid hb1
    clear hm1 hb1 hg hm
    go_wp2_with fail
    refine (mbytes_any _ us w1 ((HVA.out.below HB1.out).more HB1.out.size) (by rw [← HP.out]; omega)).mono ?_
    rintro e w2 ⟨v', rfl, hown, hb2⟩
    rw [← HP.out] at hown
    have hform : ∃ A c, v' = .slice A p c ∧ p ≤ c ∧ c ≤ maxLen ∧ (A = none → c = 0) ∧ ∃ x, (0 < p → A = some ⟨x, 0, none⟩ ∧ RowB w2 x p us ∧ w1.heap.size ≤ x) := by
      rcases hown.2 with ⟨rfl, hn⟩ | ⟨x, cap, cur, rfl, hB, hg, hn, hcm, hcs, ht⟩
      · have h0 : p = 0 := by simpa using hn
        subst h0
        exact ⟨none, 0, rfl, Nat.le_refl _, by unfold maxLen; omega, fun _ => rfl, 0, fun h => absurd h (Nat.lt_irrefl _)⟩
      · refine ⟨_, cap, rfl, hn, hcm, (fun h => by cases h), x, fun _ => ⟨rfl, ⟨cur, hg, fun j hj => ?_⟩, hB⟩⟩
        have e := congrArg (fun l => l[j]?) ht
        simp only [Nat.mul_one] at e
        rw [List.getElem?_take_of_lt hj, bv_at us j (by rw [← HP.out]; exact hj)] at e
        simpa using e
    obtain ⟨XA, xc, rfl, hxc, hxm, hx0, x, hx⟩ := hform
    have HX := Lib.hid hx
    have HX0 := Lib.hid hx0
    have HM2 := Lib.hid (HM1.out.below hb2)
    have HB2 := Lib.hid (HB1.out.trans (hb2.mono HB1.out.size))
    have HXO : Hid (0 < p → x ≠ g ∧ Off x m [] ∧ w.heap.size ≤ x) := fun h => by
      have h3 := (HX.out h).2.2
      have h4 := HM1.out.mlt
      have h5 := HM1.out.box.lt
      have h6 := HB1.out.size
      exact ⟨by omega, ⟨by omega, by simp⟩, by omega⟩
    unfold maxLen at hxm
    clear hown hx0 hx hb2 HM1 HB1
    go_wp2_with fail
    refine (mset_ok w.heap.size g m [] 1 300 w2 HM2.out small_nil (by omega) (by omega) (by omega) (by omega) HB2.out.size).mono ?_
    rintro e w3 ⟨rfl, hm3, hst3⟩
    obtain ⟨b1, hb1⟩ : ∃ b, b = w2.heap.size := ⟨_, rfl⟩
    obtain ⟨z, hz⟩ : ∃ z : List UInt8, z = List.replicate 300 0 := ⟨_, rfl⟩
    have e1 : setB (old [] 1) (300 : Int).toNat = z := by rw [hz]; rfl
    rw [e1, ← hb1] at hm3 hst3
    have HZL : Hid (z.length = 300) := by rw [hz]; show _ = _; simp
    have HB3 := Lib.hid (hst3.below HM2.out HB2.out HB2.out.size)
    have HX3 : Hid (0 < p → RowB w3 x p us ∧ Off x m (put [] 1 (b1, z))) := fun h => by
      have h3 := (HX.out h).2.1
      have h4 := hst3.keep x h3.lt (HXO.out h).2.1
      exact ⟨h3.grown h4.1, h4.2⟩
    have HM3 := Lib.hid hm3
    clear hm3 hst3 e1 hb1 hz
    go_wp2_with fail
    refine (mset_ok w.heap.size g m _ 2 300 w3 HM3.out (small_put small_nil _ _ _ (by rw [HZL.out]; omega)) (by omega) (by omega) (by omega) (by omega) HB3.out.size).mono ?_
    rintro e w4 ⟨rfl, hm4, hst4⟩
    obtain ⟨b2, hb2⟩ : ∃ b, b = w3.heap.size := ⟨_, rfl⟩
    obtain ⟨y, hy⟩ : ∃ y0 : List UInt8, y0 = setB (old (put [] 1 (b1, z)) 2) (300 : Int).toNat := ⟨_, rfl⟩
    have HYL : Hid (y.length = 300) := by show _ = _; rw [hy, setB_length]; rfl
    rw [← hy, ← hb2, put11] at hm4 hst4
    have HB4 := Lib.hid (hst4.below HM3.out HB3.out HB3.out.size)
    have HX4 : Hid (0 < p → RowB w4 x p us ∧ Off x m (twoE b1 z b2 y)) := fun h => by
      obtain ⟨h3, h5⟩ := HX3.out h
      have h4 := hst4.keep x h3.lt h5
      exact ⟨h3.grown h4.1, h4.2⟩
    have hs4 : Sl w4 w4.heap.size (.slice XA p xc) (bv us) := by
      exact RowB.sl (fun h => ⟨(HX.out h).1, (HX4.out h).1⟩) HP.out hxc (by unfold maxLen; omega) HX0.out
    have HM4 := Lib.hid hm4
    clear hm4 hst4 hb2 hy HX3 HM3 HM2 HB2 HB3
    go_wp2_with fail
    refine (mwrite_okI w.heap.size g m _ 1 0 0 rfl _ us w4 HM4.out (small2 _ _ _ _ (by rw [HZL.out]; omega) (by rw [HYL.out]; omega)) hs4 (look2_1 _ _ _ _) (by rw [HZL.out, ← HP.out]; omega)).mono ?_
    rintro e w5 ⟨rfl, hm5, hst5⟩
    obtain ⟨z', hz'⟩ : ∃ z0, z0 = over z 0 us := ⟨_, rfl⟩
    have HZL' : Hid (z'.length = 300) := by show _ = _; rw [hz', over_length _ _ _ (by rw [HZL.out, ← HP.out]; omega), HZL.out]
    have HZR : Hid (readB z' 0 p = us) := by show _ = _; rw [hz', HP.out]; exact over_read _ _
    rw [← hz', put2_1] at hm5 hst5
    have HB5 := Lib.hid (hst5.below HM4.out HB4.out HB4.out.size)
    have HX5 : Hid (0 < p → RowB w5 x p us ∧ Off x m (twoE b1 z' b2 y)) := fun h => by
      obtain ⟨h3, h5⟩ := HX4.out h
      have h4 := hst5.keep x h3.lt h5
      exact ⟨h3.grown h4.1, h4.2⟩
    have HM5 := Lib.hid hm5
    clear hm5 hst5 hz' hs4
    go_wp2_with fail
    refine (mwrite_okI w.heap.size g m _ 2 0 0 rfl _ bs w5 HM5.out (small2 _ _ _ _ (by rw [HZL'.out]; omega) (by rw [HYL.out]; omega)) ((HVB.out.below HB5.out).more HB5.out.size) (look2_2 _ _ _ _) (by rw [HYL.out, ← HQ.out]; omega)).mono ?_
    rintro e w6 ⟨rfl, hm6, hst6⟩
    obtain ⟨y', hy'⟩ : ∃ z0, z0 = over y 0 bs := ⟨_, rfl⟩
    have HYL' : Hid (y'.length = 300) := by show _ = _; rw [hy', over_length _ _ _ (by rw [HYL.out, ← HQ.out]; omega), HYL.out]
    have HYR : Hid (readB y' 0 q = bs) := by show _ = _; rw [hy', HQ.out]; exact over_read _ _
    rw [← hy', put2_2] at hm6 hst6
    have HB6 := Lib.hid (hst6.below HM5.out HB5.out HB5.out.size)
    obtain ⟨L, hL⟩ : ∃ L, L = twoE b1 z' b2 y' := ⟨_, rfl⟩
    rw [← hL] at hm6 hst6
    have HX6 : Hid (0 < p → Row8 w6 x p ∧ Off x m L) := fun h => by
      obtain ⟨h3, h5⟩ := HX5.out h
      have h4 := hst6.keep x h3.lt h5
      exact ⟨(h3.grown h4.1).row, h4.2⟩
    have HSM : Hid (Small L) := by rw [hL]; exact small2 _ _ _ _ (by rw [HZL'.out]; omega) (by rw [HYL'.out]; omega)
    have HL1 : Hid (look L 1 = some (0, b1, z')) := by rw [hL]; exact look2_1 _ _ _ _
    have HL2 : Hid (look L 2 = some (1, b2, y')) := by rw [hL]; exact look2_2 _ _ _ _
    have HM6 := Lib.hid hm6
    clear hm6 hst6 hy' hL HX4 HX5 HM4 HM5 HB4 HB5 HZL HYL
    go_wp2_with fail
    go_loopw [7] (XRel w w.heap.size g m x p L) (fun a _ => p - (intOf a).toNat)
    case atStart => exact ⟨0, Nat.zero_le _, rfl, fun h => (HX6.out h).1, HM6.out, HB6.out⟩
    case round =>
      obtain ⟨i, hi, rfl, hr, hm, hb⟩ := hrel
      have HR := Lib.hid hr
      have HM := Lib.hid hm
      have HB := Lib.hid hb
      clear hr hm hb
      by_cases hlt : i < p
      · have hp0 : 0 < p := by omega
        obtain ⟨h1x, h2x, h3x⟩ := HXO.out hp0
        have hXA := (HX.out hp0).1
        subst hXA
        obtain ⟨cur, hcur, hcy⟩ := HR.out hp0
        obtain ⟨y0, hy0⟩ := hcy i hlt
        have hc : wr.cell? ⟨x, i, none⟩ = some (.int .u8 y0) := (hcur.cell i).trans hy0
        have hf : wr.frozen? ⟨x, i, none⟩ = false := hcur.frozen i
        have HOF := Lib.hid (HX6.out hp0).2
        clear hcur hcy hy0 h2x
        go_wp2_with fail
        go_roundw
        case rel => exact ⟨i + 1, by omega, by go_num, fun _ => (HR.out hp0).set_ i _, HM.out.other h1x HOF.out (only_set (only_refl wr (some x)) i _), below_of_only HB.out (only_set (only_refl wr (some x)) i _) HB.out.size h3x⟩
        case measure => simp [intOf]; omega
      · obtain rfl : i = p := by omega
        clear HR HX6 HM6 HB6
        go_wp2_with fail
        refine (mread_okI w.heap.size g m L 1 0 0 rfl i i rfl wr HM.out HSM.out HL1.out (by rw [HZL'.out]; omega)).mono ?_
        rintro e w8 ⟨rfl, hall, hb8⟩
        rw [HZR.out] at hall
        have hPg : g < wr.heap.size := HM.out.box.lt
        have hPm : m < wr.heap.size := HM.out.mlt
        have hPL : ∀ e ∈ L, e.2.1 ≠ wr.heap.size := fun e he => Nat.ne_of_lt (HM.out.row e he).lt
        have hPw := HB.out.size
        obtain ⟨P, hP⟩ : ∃ a, a = wr.heap.size := ⟨_, rfl⟩
        rw [← hP] at hall hPg hPm hPL hPw ⊢
        have HRP : Hid (Row8 w8 P i) := Row8.of_blk hall HP.out.symm
        have HM8 := Lib.hid (HM.out.below hb8)
        have HB8 := Lib.hid (HB.out.trans (hb8.mono HB.out.size))
        have HPO : Hid (P ≠ g ∧ Off P m L ∧ w.heap.size ≤ P) := ⟨by omega, ⟨by omega, hPL⟩, hPw⟩
        clear hall hb8 hP hPg hPm hPL hPw HM HB
        go_wp2_with fail
        go_loopw [10] (XRel w w.heap.size g m P i L) (fun a _ => i - (intOf a).toNat)
        case atStart => exact ⟨0, Nat.zero_le _, rfl, fun _ => HRP.out, HM8.out, HB8.out⟩
        case round =>
          clear HRP HM8 HB8
          obtain ⟨j, hj, rfl, hr, hm, hb⟩ := hrel
          have HR := Lib.hid hr
          have HM := Lib.hid hm
          have HB := Lib.hid hb
          clear hr hm hb
          by_cases hlt2 : j < i
          · have hp0 : 0 < i := by omega
            obtain ⟨h1x, h2x, h3x⟩ := HPO.out
            have HOF := Lib.hid h2x
            obtain ⟨cur, hcur, hcy⟩ := HR.out hp0
            obtain ⟨y0, hy0⟩ := hcy j hlt2
            have hc : wr.cell? ⟨P, j, none⟩ = some (.int .u8 y0) := (hcur.cell j).trans hy0
            have hf : wr.frozen? ⟨P, j, none⟩ = false := hcur.frozen j
            clear hcur hcy hy0 h2x
            go_wp2_with fail
            go_roundw
            case rel => exact ⟨j + 1, by omega, by go_num, fun _ => (HR.out hp0).set_ j _, HM.out.other h1x HOF.out (only_set (only_refl _ (some P)) j _), below_of_only HB.out (only_set (only_refl _ (some P)) j _) HB.out.size h3x⟩
            case measure => simp [intOf]; omega
          · obtain rfl : j = i := by omega
            clear HR
            go_wp2_with fail
            refine (mread_okI w.heap.size g m L 1 0 0 rfl j j rfl wr HM.out HSM.out HL1.out (by rw [HZL'.out]; omega)).mono ?_
            rintro e w9 ⟨rfl, hall, hb9⟩
            rw [HZR.out] at hall
            obtain ⟨Q, hQ⟩ : ∃ a, a = wr.heap.size := ⟨_, rfl⟩
            rw [← hQ] at hall ⊢
            have HA9 := Lib.hid hall
            have HM9 := Lib.hid (HM.out.below hb9)
            have HB9 := Lib.hid (HB.out.trans (hb9.mono HB.out.size))
            clear hall hb9 hQ HM HB
            go_wp2_with fail
            refine (mread_okI w.heap.size g m L 2 0 0 rfl q q rfl w9 HM9.out HSM.out HL2.out (by rw [HYL'.out]; omega)).mono ?_
            rintro e w10 ⟨rfl, hall, hb10⟩
            rw [HYR.out] at hall
            obtain ⟨R, hR⟩ : ∃ a, a = w9.heap.size := ⟨_, rfl⟩
            rw [← hR] at hall ⊢
            have hq10 := HA9.out.below hb10 HA9.out.lt
            have HB10 := Lib.hid (HB9.out.trans (hb10.mono HB9.out.size))
            have k1 := conv_str Tryd.underlying31 Tryd.underlying5 Tryd.underlying9 (RowB.sl (w := w10) (x := Q) (n := j) (us := us) (A := some ⟨Q, 0, none⟩) (c := j) (fun _ => ⟨rfl, _, hq10, fun i hi => by simpa using bv_at us i (by rw [← HP.out]; exact hi)⟩) HP.out (Nat.le_refl _) (by unfold maxLen; omega) (fun h => by cases h))
            have k2 := conv_str Tryd.underlying31 Tryd.underlying5 Tryd.underlying9 ((HVA.out.below HB10.out).more HB10.out.size)
            have k3 := conv_str Tryd.underlying31 Tryd.underlying5 Tryd.underlying9 (RowB.sl (w := w10) (x := R) (n := q) (us := bs) (A := some ⟨R, 0, none⟩) (c := q) (fun _ => ⟨rfl, _, hall, fun i hi => by simpa using bv_at bs i (by rw [← HQ.out]; exact hi)⟩) HQ.out (Nat.le_refl _) (by unfold maxLen; omega) (fun h => by cases h))
            have k4 := conv_str Tryd.underlying31 Tryd.underlying5 Tryd.underlying9 ((HVB.out.below HB10.out).more HB10.out.size)
            obtain ⟨su, hsu⟩ : ∃ s, s = strB us := ⟨_, rfl⟩
            obtain ⟨sb, hsb⟩ : ∃ s, s = strB bs := ⟨_, rfl⟩
            rw [← hsu] at k1 k2
            rw [← hsb] at k3 k4
            clear hall hb10 hR hsu hsb hq10
            go_wp2_with fail
            refine (mawake_any w10).mono ?_
            rintro e w11 ⟨rfl, hb⟩
            go_wp2
            go_ret
            exact ⟨rfl, HB10.out.trans (hb.mono HB10.out.size)⟩
end Go.Proofs.YtagjmkgbfbaekaaDoor
