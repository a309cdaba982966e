/- The document's memories: Word, Set. No condition. -/
import Derived.Test.YtagjmkgbfbaekaaDoorMRefA
namespace Go.Proofs.YtagjmkgbfbaekaaDoor
open Go.RowKit
set_option maxRecDepth 100000

theorem wordB_none (a : Int) : wordB [] a = 0 := by
  have h : ∀ k, bAt [] k = 0 := fun k => by unfold bAt; rw [if_neg (by simp)]
  show bAt [] a + bAt [] (a + 1) * 256 + bAt [] (a + 2) * 65536 + bAt [] (a + 3) * 16777216 = 0
  simp [h]
set_option maxHeartbeats 3200000 in
theorem rword_any (P : Nat → Prop) (h : Nat) (f : Int → Option (List UInt8)) (k a : Int) (w : World) (hR : RM w P h f) (ha1 : -9223372036854775808 ≤ a) (ha2 : a ≤ 9223372036854775807) :
    Calls Tryd.prog 28 #[.pointer (some ⟨h, 0, none⟩), .int .i64 k, .int .i64 a] w fun e w' => e = .returned (.int .u32 (wordB ((f k).getD []) a)) ∧ w = w' := by
  have HIN := Lib.hid (rin_any P h f k w hR)
  cases hf : f k with
  | none =>
    have hfin : Hid (wordB ((none : Option (List UInt8)).getD []) a = 0) := wordB_none a
    rw [hf] at HIN
    generalize wordB ((none : Option (List UInt8)).getD []) a = z at hfin ⊢
    clear hR hf
    go_enter Tryd.func28, Tryd.ntmps28
    go_wp2_with fail
    go_loop [7, 8] (fun v i => v = .int .u32 0 ∧ i = .int .i64 0) (fun _ _ => 1)
    case atStart => exact ⟨rfl, rfl⟩
    case round =>
      obtain ⟨rfl, rfl⟩ := hrel
      go_wp2_with fail
      refine HIN.out.mono ?_
      rintro e w1 ⟨rfl, rfl⟩
      go_wp2_with fail
      go_ret
      rw [hfin.out]
      exact ⟨rfl, rfl⟩
  | some bs =>
    obtain ⟨c, rfl, hc1, hc⟩ := hR.key hf
    obtain ⟨v, hcell, hsl⟩ := hR.row hc
    have hsm := hR.small _ _ hf
    rw [hf] at HIN hsl
    simp only [Option.getD_some] at hsl ⊢
    have hform : ∃ A n cc, v = .slice A n cc ∧ n ≤ cc ∧ n = bs.length ∧ ∀ q, q < n → ∃ b, A = some ⟨b, 0, none⟩ ∧ w.cell? ⟨b, q, none⟩ = some (.int .u8 (byteAt bs q)) := by
      rcases hsl with ⟨rfl, rfl⟩ | ⟨b, cc, rfl, hn, _, hb, _, hx⟩
      · exact ⟨none, 0, 0, rfl, Nat.le_refl _, rfl, fun q hq => absurd hq (Nat.not_lt_zero _)⟩
      · exact ⟨_, _, cc, rfl, hn, rfl, fun q hq => ⟨b, rfl, hx q _ (bv_at bs q hq)⟩⟩
    obtain ⟨A, n, cc, rfl, hncc, hn, hq⟩ := hform
    have HQ := Lib.hid hq
    have HN := Lib.hid hn
    have hn2 : n ≤ 65536 := by omega
    have d : decide ((c : Int) < 256) = true := by simp; omega
    clear hR hf hsl hn hq hsm
    have hb0 := bAt_lt bs a
    have hb1 := bAt_lt bs (a + 1)
    have hb2 := bAt_lt bs (a + 2)
    have hb3 := bAt_lt bs (a + 3)
    have HBO : Hid (∀ x, ¬ inR n x → bAt bs x = 0) := fun x hx => by unfold bAt inR at *; rw [if_neg (by rw [← HN.out]; exact hx)]
    have HBI : Hid (∀ q : Nat, q < n → bAt bs q = byteAt bs q) := fun q hq => by unfold bAt; rw [if_pos (by rw [← HN.out]; omega)]; simp
    have HW : Hid (wT bs a 0 = 0 ∧ wT bs a 1 = bAt bs a ∧ wT bs a 2 = bAt bs a + bAt bs (a + 1) * 256 ∧ wT bs a 3 = bAt bs a + bAt bs (a + 1) * 256 + bAt bs (a + 2) * 65536 ∧ wT bs a 4 = bAt bs a + bAt bs (a + 1) * 256 + bAt bs (a + 2) * 65536 + bAt bs (a + 3) * 16777216) := ⟨rfl, rfl, rfl, rfl, rfl⟩
    obtain ⟨x0, e0⟩ : ∃ x, x = bAt bs a := ⟨_, rfl⟩
    obtain ⟨x1, e1⟩ : ∃ x, x = bAt bs (a + 1) := ⟨_, rfl⟩
    obtain ⟨x2, e2⟩ : ∃ x, x = bAt bs (a + 2) := ⟨_, rfl⟩
    obtain ⟨x3, e3⟩ : ∃ x, x = bAt bs (a + 3) := ⟨_, rfl⟩
    rw [← e0] at hb0 HW
    rw [← e1] at hb1 HW
    rw [← e2] at hb2 HW
    rw [← e3] at hb3 HW
    have E0 := Lib.hid e0
    have E1 := Lib.hid e1
    have E2 := Lib.hid e2
    have E3 := Lib.hid e3
    obtain ⟨p00, p01⟩ := hb0
    obtain ⟨p10, p11⟩ := hb1
    obtain ⟨p20, p21⟩ := hb2
    obtain ⟨p30, p31⟩ := hb3
    clear e0 e1 e2 e3
    go_enter Tryd.func28, Tryd.ntmps28
    go_wp2_with fail
    go_loop [7, 8] (WordRel bs a) (fun _ i => 4 - (intOf i).toNat)
    case atStart => exact ⟨0, by omega, rfl, rfl⟩
    case round =>
      obtain ⟨i, hi, rfl, rfl⟩ := hrel
      have hca : i = 0 ∨ i = 1 ∨ i = 2 ∨ i = 3 ∨ i = 4 := by omega
      rcases hca with rfl | rfl | rfl | rfl | rfl
      · rw [HW.out.1]
        by_cases hr : inR n a
        · obtain ⟨h0, h1⟩ := hr
          obtain ⟨q, hq⟩ : ∃ q : Nat, a = q := Int.eq_ofNat_of_zero_le h0
          obtain ⟨b, rfl, hcell2⟩ := HQ.out q (by omega)
          have hcell' : w.cell? ⟨b, (a).toNat, none⟩ = some (.int .u8 x0) := by rw [E0.out, hq, HBI.out q (by omega), Int.toNat_natCast]; exact hcell2
          have da : decide (0 ≤ a) = true := by simp; omega
          have db : decide (a < (n : Int)) = true := by simp; omega
          clear hcell2 hq
          go_wp2_with fail
          refine HIN.out.mono ?_
          rintro e w1 ⟨rfl, rfl⟩
          go_wp2_with fail
          refine ⟨⟨1, by omega, rfl, ?_⟩, by simp [intOf]⟩
          rw [HW.out.2.1]
        · have hx : x0 = 0 := by rw [E0.out]; exact HBO.out _ hr
          have hfin : Hid (wT bs a 0 = wT bs a 1) := by show _ = _; have q1 := HW.out.1; have q2 := HW.out.2.1; rw [hx] at q2; omega
          have hr' : a < 0 ∨ (0 ≤ a ∧ (n : Int) ≤ a) := by unfold inR at hr; omega
          have HE := Lib.hid HW.out.1
          clear hr hx
          rcases hr' with h0 | ⟨h0, h1⟩
          · have da : decide (0 ≤ a) = false := by simp; omega
            go_wp2_with fail
            refine HIN.out.mono ?_
            rintro e w1 ⟨rfl, rfl⟩
            go_wp2_with fail
            exact ⟨⟨1, by omega, rfl, by rw [← hfin.out, HE.out]⟩, by simp [intOf]⟩
          · have da : decide (0 ≤ a) = true := by simp; omega
            have db : decide (a < (n : Int)) = false := by simp; omega
            go_wp2_with fail
            refine HIN.out.mono ?_
            rintro e w1 ⟨rfl, rfl⟩
            go_wp2_with fail
            exact ⟨⟨1, by omega, rfl, by rw [← hfin.out, HE.out]⟩, by simp [intOf]⟩
      · rw [HW.out.2.1]
        by_cases hr : inR n (a + 1)
        · obtain ⟨h0, h1⟩ := hr
          obtain ⟨q, hq⟩ : ∃ q : Nat, (a + 1) = q := Int.eq_ofNat_of_zero_le h0
          obtain ⟨b, rfl, hcell2⟩ := HQ.out q (by omega)
          have hcell' : w.cell? ⟨b, ((a + 1)).toNat, none⟩ = some (.int .u8 x1) := by rw [E1.out, hq, HBI.out q (by omega), Int.toNat_natCast]; exact hcell2
          have da : decide (-1 ≤ a) = true := by simp; omega
          have db : decide (a < (n : Int) - 1) = true := by simp; omega
          clear hcell2 hq
          go_wp2_with fail
          refine HIN.out.mono ?_
          rintro e w1 ⟨rfl, rfl⟩
          go_wp2_with fail
          refine ⟨⟨2, by omega, rfl, ?_⟩, by simp [intOf]⟩
          rw [HW.out.2.2.1]
        · have hx : x1 = 0 := by rw [E1.out]; exact HBO.out _ hr
          have hfin : Hid (wT bs a 1 = wT bs a 2) := by show _ = _; have q1 := HW.out.2.1; have q2 := HW.out.2.2.1; rw [hx] at q2; omega
          have hr' : a < -1 ∨ (-1 ≤ a ∧ (n : Int) - 1 ≤ a) := by unfold inR at hr; omega
          have HE := Lib.hid HW.out.2.1
          clear hr hx
          rcases hr' with h0 | ⟨h0, h1⟩
          · have da : decide (-1 ≤ a) = false := by simp; omega
            go_wp2_with fail
            refine HIN.out.mono ?_
            rintro e w1 ⟨rfl, rfl⟩
            go_wp2_with fail
            exact ⟨⟨2, by omega, rfl, by rw [← hfin.out, HE.out]⟩, by simp [intOf]⟩
          · have da : decide (-1 ≤ a) = true := by simp; omega
            have db : decide (a < (n : Int) - 1) = false := by simp; omega
            go_wp2_with fail
            refine HIN.out.mono ?_
            rintro e w1 ⟨rfl, rfl⟩
            go_wp2_with fail
            exact ⟨⟨2, by omega, rfl, by rw [← hfin.out, HE.out]⟩, by simp [intOf]⟩
      · rw [HW.out.2.2.1]
        by_cases hr : inR n (a + 2)
        · obtain ⟨h0, h1⟩ := hr
          obtain ⟨q, hq⟩ : ∃ q : Nat, (a + 2) = q := Int.eq_ofNat_of_zero_le h0
          obtain ⟨b, rfl, hcell2⟩ := HQ.out q (by omega)
          have hcell' : w.cell? ⟨b, ((a + 2)).toNat, none⟩ = some (.int .u8 x2) := by rw [E2.out, hq, HBI.out q (by omega), Int.toNat_natCast]; exact hcell2
          have da : decide (-2 ≤ a) = true := by simp; omega
          have db : decide (a < (n : Int) - 2) = true := by simp; omega
          clear hcell2 hq
          go_wp2_with fail
          refine HIN.out.mono ?_
          rintro e w1 ⟨rfl, rfl⟩
          go_wp2_with fail
          refine ⟨⟨3, by omega, rfl, ?_⟩, by simp [intOf]⟩
          rw [HW.out.2.2.2.1]
        · have hx : x2 = 0 := by rw [E2.out]; exact HBO.out _ hr
          have hfin : Hid (wT bs a 2 = wT bs a 3) := by show _ = _; have q1 := HW.out.2.2.1; have q2 := HW.out.2.2.2.1; rw [hx] at q2; omega
          have hr' : a < -2 ∨ (-2 ≤ a ∧ (n : Int) - 2 ≤ a) := by unfold inR at hr; omega
          have HE := Lib.hid HW.out.2.2.1
          clear hr hx
          rcases hr' with h0 | ⟨h0, h1⟩
          · have da : decide (-2 ≤ a) = false := by simp; omega
            go_wp2_with fail
            refine HIN.out.mono ?_
            rintro e w1 ⟨rfl, rfl⟩
            go_wp2_with fail
            exact ⟨⟨3, by omega, rfl, by rw [← hfin.out, HE.out]⟩, by simp [intOf]⟩
          · have da : decide (-2 ≤ a) = true := by simp; omega
            have db : decide (a < (n : Int) - 2) = false := by simp; omega
            go_wp2_with fail
            refine HIN.out.mono ?_
            rintro e w1 ⟨rfl, rfl⟩
            go_wp2_with fail
            exact ⟨⟨3, by omega, rfl, by rw [← hfin.out, HE.out]⟩, by simp [intOf]⟩
      · rw [HW.out.2.2.2.1]
        by_cases hr : inR n (a + 3)
        · obtain ⟨h0, h1⟩ := hr
          obtain ⟨q, hq⟩ : ∃ q : Nat, (a + 3) = q := Int.eq_ofNat_of_zero_le h0
          obtain ⟨b, rfl, hcell2⟩ := HQ.out q (by omega)
          have hcell' : w.cell? ⟨b, ((a + 3)).toNat, none⟩ = some (.int .u8 x3) := by rw [E3.out, hq, HBI.out q (by omega), Int.toNat_natCast]; exact hcell2
          have da : decide (-3 ≤ a) = true := by simp; omega
          have db : decide (a < (n : Int) - 3) = true := by simp; omega
          clear hcell2 hq
          go_wp2_with fail
          refine HIN.out.mono ?_
          rintro e w1 ⟨rfl, rfl⟩
          go_wp2_with fail
          refine ⟨⟨4, by omega, rfl, ?_⟩, by simp [intOf]⟩
          rw [HW.out.2.2.2.2]
        · have hx : x3 = 0 := by rw [E3.out]; exact HBO.out _ hr
          have hfin : Hid (wT bs a 3 = wT bs a 4) := by show _ = _; have q1 := HW.out.2.2.2.1; have q2 := HW.out.2.2.2.2; rw [hx] at q2; omega
          have hr' : a < -3 ∨ (-3 ≤ a ∧ (n : Int) - 3 ≤ a) := by unfold inR at hr; omega
          have HE := Lib.hid HW.out.2.2.2.1
          clear hr hx
          rcases hr' with h0 | ⟨h0, h1⟩
          · have da : decide (-3 ≤ a) = false := by simp; omega
            go_wp2_with fail
            refine HIN.out.mono ?_
            rintro e w1 ⟨rfl, rfl⟩
            go_wp2_with fail
            exact ⟨⟨4, by omega, rfl, by rw [← hfin.out, HE.out]⟩, by simp [intOf]⟩
          · have da : decide (-3 ≤ a) = true := by simp; omega
            have db : decide (a < (n : Int) - 3) = false := by simp; omega
            go_wp2_with fail
            refine HIN.out.mono ?_
            rintro e w1 ⟨rfl, rfl⟩
            go_wp2_with fail
            exact ⟨⟨4, by omega, rfl, by rw [← hfin.out, HE.out]⟩, by simp [intOf]⟩
      · have HV : Hid (Ending.returned (.int .u32 (wT bs a 4)) = .returned (.int .u32 (wordB bs a))) := rfl
        go_wp2_with fail
        go_ret
        exact ⟨HV.out, rfl⟩

/-- 'copy' into whatever bytes lie there. -/
theorem run_copy_any (w : World) (ty : TypeId) (A : Option Addr) (dl dc : Nat) (b at_ : Nat) (cur : Array Value) (ys : List UInt8) (src : Value) (hb : Blk w b 5 cur) (hs : Sl w w.heap.size src (bv ys))
    (hA : 0 < min ys.length dl → A = some ⟨b, at_, none⟩) (hfit : at_ + min ys.length dl ≤ cur.size) :
    ∃ w', (Builtin.copy_ #[31, 31] ty #[.slice A dl dc, src]).run Tryd.prog w = .ok (.int .i64 (min ys.length dl : Nat)) w' ∧ Blk w' b 5 (cur.toList.take at_ ++ (bv (ys.take dl) ++ cur.toList.drop (at_ + (ys.take dl).length))).toArray ∧ w.grownBy w' (some b) ∧ w'.heap.size = w.heap.size := by
  obtain ⟨_, SA, sc, rfl, hsc, hsm, _, hsx⟩ := hs
  obtain ⟨i, hi, hz, hs1, hby⟩ := info_parts Tryd.infoB8
  have hsz : (Tryd.prog.info? 5).map (·.size) = some 1 := by rw [hi]; simp [hs1]
  rw [bv_length]
  by_cases h0 : min ys.length dl = 0
  · refine ⟨w, ?_, ?_, only_refl _ _, rfl⟩
    · rw [run_copy_none (P := Tryd.prog) w _ _ ty 5 A SA dl dc ys.length sc Tryd.underlying31 hsz h0, h0]; rfl
    · have : ys.take dl = [] := by
        apply List.eq_nil_of_length_eq_zero
        rw [List.length_take, Nat.min_comm]; exact h0
      rw [this]
      simpa [bv] using hb
  · have p := Nat.pos_of_ne_zero h0
    have hA' := hA p
    subst hA'
    obtain ⟨sb, so, rfl, hsb, hx⟩ := hsx (by rw [bv_length]; exact Nat.lt_of_lt_of_le p (Nat.min_le_left _ _))
    have hl : (bv (ys.take dl)).length = min ys.length dl := by rw [bv_length, List.length_take, Nat.min_comm]
    have hrun := run_copy_row (P := Tryd.prog) w 31 31 ty 5 b at_ dl dc ⟨sb, so, none⟩ ys.length sc cur 5 (bv (ys.take dl)) Tryd.underlying31 hsz hb hl (fun j v hj => by
      have : (bv ys)[j]? = some v := by
        have h1 := (List.getElem?_eq_some_iff.1 hj).1
        rw [bv_take] at hj
        rw [List.getElem?_take_of_lt (by rw [hl] at h1; exact Nat.lt_of_lt_of_le h1 (Nat.min_le_right _ _))] at hj
        exact hj
      have := hx j v this
      rw [show (⟨sb, so, none⟩ : Addr).add j = ⟨sb, so + j, none⟩ from by unfold Addr.add; split <;> simp_all]
      exact this) (by rw [hl]; exact hfit) (bv_one _)
    rw [List.append_assoc, hl] at hrun
    have e : (ys.take dl).length = min ys.length dl := by rw [List.length_take, Nat.min_comm]
    rw [e]
    exact ⟨_, hrun, setRow_heap w b cur _ 5 (0, 0) hb, ⟨rfl, rfl, rfl, by simp [World.setRow], fun k _ hk => setRow_other w b k _ (fun e => hk (by rw [e]))⟩, by simp [World.setRow]⟩
/-- What is laid over the begin of a row. -/
theorem splice_take {α : Type} (X Y : List α) (a n : Nat) (h : a + Y.length ≤ n) (hn : n ≤ X.length) : (X.take a ++ (Y ++ X.drop (a + Y.length))).take n = (X.take n).take a ++ (Y ++ (X.take n).drop (a + Y.length)) := by
  apply List.ext_getElem?
  intro j
  by_cases hj : j < n
  · rw [List.getElem?_take_of_lt hj]
    by_cases h1 : j < a
    · rw [List.getElem?_append_left (by simp; omega), List.getElem?_append_left (by simp; omega), List.getElem?_take_of_lt h1, List.getElem?_take_of_lt h1, List.getElem?_take_of_lt hj]
    · have e1 : (X.take a).length = a := by simp; omega
      have e2 : ((X.take n).take a).length = a := by simp; omega
      rw [List.getElem?_append_right (l₁ := X.take a) (by omega), List.getElem?_append_right (l₁ := (X.take n).take a) (by omega), e1, e2]
      by_cases h2 : j - a < Y.length
      · rw [List.getElem?_append_left h2, List.getElem?_append_left h2]
      · rw [List.getElem?_append_right (by omega), List.getElem?_append_right (by omega), List.getElem?_drop, List.getElem?_drop, List.getElem?_take_of_lt (by omega)]
  · rw [List.getElem?_eq_none (by simp; omega), List.getElem?_eq_none (by simp; omega)]

theorem rset_bad (p : Value) (k n : Int) (w : World) (hbad : ¬ (1 ≤ k ∧ k ≤ 255 ∧ 0 ≤ n ∧ n ≤ 65536)) :
    Calls Tryd.prog 24 #[p, .int .i64 k, .int .i64 n] w fun e w' => e = .returned (.int .i64 1) ∧ w = w' := by
  have hca : k < 1 ∨ (1 ≤ k ∧ 255 < k) ∨ (1 ≤ k ∧ k ≤ 255 ∧ n < 0) ∨ (1 ≤ k ∧ k ≤ 255 ∧ 0 ≤ n ∧ 65536 < n) := by omega
  clear hbad
  rcases hca with h | ⟨h, h'⟩ | ⟨h, h', h''⟩ | ⟨h, h', h'', h'''⟩
  · have d : decide (k < 1) = true := by simpa using h
    go_enter Tryd.func24, Tryd.ntmps24
    go_wp2
    go_ret
    exact ⟨rfl, rfl⟩
  · have d : decide (k < 1) = false := by simpa using h
    have d' : decide (255 < k) = true := by simpa using h'
    go_enter Tryd.func24, Tryd.ntmps24
    go_wp2
    go_ret
    exact ⟨rfl, rfl⟩
  · have d : decide (k < 1) = false := by simpa using h
    have d' : decide (255 < k) = false := by simpa using h'
    have d'' : decide (n < 0) = true := by simpa using h''
    go_enter Tryd.func24, Tryd.ntmps24
    go_wp2
    go_ret
    exact ⟨rfl, rfl⟩
  · have d : decide (k < 1) = false := by simpa using h
    have d' : decide (255 < k) = false := by simpa using h'
    have d'' : decide (n < 0) = false := by simpa using h''
    have d3 : decide (65536 < n) = true := by simpa using h'''
    go_enter Tryd.func24, Tryd.ntmps24
    go_wp2
    go_ret
    exact ⟨rfl, rfl⟩
set_option maxHeartbeats 1600000 in
theorem rset_ok (P : Nat → Prop) (h : Nat) (f : Int → Option (List UInt8)) (k n : Int) (w : World) (hR : RM w P h f) (h1 : 1 ≤ k) (h2 : k ≤ 255) (h3 : 0 ≤ n) (h4 : n ≤ 65536) :
    Calls Tryd.prog 24 #[.pointer (some ⟨h, 0, none⟩), .int .i64 k, .int .i64 n] w fun e w' => e = .returned (.int .i64 0) ∧
      RM w' (fun b => P b ∨ w.heap.size ≤ b) h (fun q => if q = k then some (setB ((f k).getD []) n.toNat) else f q) ∧ w.grownBy w' (some h) := by
  obtain ⟨c, rfl⟩ : ∃ c : Nat, k = c := Int.eq_ofNat_of_zero_le (by omega)
  obtain ⟨m, rfl⟩ := Int.eq_ofNat_of_zero_le h3
  have hc : c < 256 := by omega
  have hmk := run_make_bytes w m (by omega)
  have hb1 : Below w.heap.size w (w.alloc (.cells (bv (List.replicate m 0)).toArray 5)) := (Below.refl _ _).alloc (Nat.le_refl _) _
  obtain ⟨v, hcell, hsl⟩ := hR.row hc
  have hsl1 := (hsl.sl.below hb1).more hb1.size
  obtain ⟨A, cc, hvf⟩ := hsl.form
  obtain ⟨w2, hcp, hblk2, hg2, hz2⟩ := run_copy_any (w.alloc (.cells (bv (List.replicate m 0)).toArray 5)) 3 (some ⟨w.heap.size, 0, none⟩) m m w.heap.size 0 (bv (List.replicate m 0)).toArray ((f c).getD []) v (Blk.new _ _ _) hsl1 (fun _ => rfl) (by simp [bv_length]; exact Nat.min_le_right _ _)
  have hrow : Blk w2 w.heap.size 5 (bv (setB ((f c).getD []) m)).toArray := by
    have e : (bv (List.replicate m 0)).toArray.toList.take 0 ++ (bv (((f c).getD []).take m) ++ (bv (List.replicate m 0)).toArray.toList.drop (0 + (((f c).getD []).take m).length)) = bv (setB ((f c).getD []) m) := by
      unfold setB
      rw [← over_bv]
      simp [splice, bv_length]
    rwa [e] at hblk2
  have hk2 : ∀ b, b < w.heap.size → w2.heap[b]? = w.heap[b]? := fun b hb => (hg2.block b (by simp; omega) (fun e => by injection e with e; omega)).trans (hb1.block b hb)
  have hs2 : w.heap.size ≤ w2.heap.size := by rw [hz2]; simp
  have hc1 : (w.alloc (.cells (bv (List.replicate m 0)).toArray 5)).cell? ⟨h, c, none⟩ = some v := (hb1.cell (p := ⟨h, c, none⟩) hR.lt).trans hcell
  have c2 : w2.cell? ⟨h, c, none⟩ = some v := (cell_same (hk2 h hR.lt)).trans hcell
  have f2 : w2.frozen? ⟨h, c, none⟩ = false := by have := hR.frozen c; simpa [World.frozen?, hk2 h hR.lt] using this
  have c3 : (w2.setCell ⟨h, c, none⟩ (.slice (some ⟨w.heap.size, 0, none⟩) m m)).cell? ⟨h, 256 + c, none⟩ = some (.bool (f c).isSome) := by
    obtain ⟨cur, hb, hsz, hx⟩ := hR.cur
    have hbk : Blk w2 h 46 cur := (hk2 h hR.lt).trans hb
    rw [(hbk.set_ c _).cell, Array.getElem?_setIfInBounds_ne (by omega)]
    exact (hx c hc).2
  have f3 : (w2.setCell ⟨h, c, none⟩ (.slice (some ⟨w.heap.size, 0, none⟩) m m)).frozen? ⟨h, 256 + c, none⟩ = false := by
    obtain ⟨cur, hb, hsz, hx⟩ := hR.cur
    have hbk : Blk w2 h 46 cur := (hk2 h hR.lt).trans hb
    exact (hbk.set_ c _).frozen _
  have hfin : Hid (∀ w3, w3 = (w2.setCell ⟨h, c, none⟩ (.slice (some ⟨w.heap.size, 0, none⟩) m m)).setCell ⟨h, 256 + c, none⟩ (.bool true) → RM w3 (fun b => P b ∨ w.heap.size ≤ b) h (fun q => if q = (c : Int) then some (setB ((f c).getD []) m) else f q) ∧ w.grownBy w3 (some h)) := by
    intro w3 hw3
    have hlen : (setB ((f c).getD []) m).length = m := setB_length _ _
    refine ⟨hR.put_ (by omega) hc (hk2 h hR.lt) (fun b hb hP => ⟨hk2 b hb, .inl hP⟩) hs2 (.inr ⟨w.heap.size, m, by rw [hlen], by omega, by unfold maxLen; omega, by rw [hz2]; simp, ⟨by have := hR.lt; omega, .inr (Nat.le_refl _)⟩, fun j u hu => ?_⟩) (by omega) w3 hw3, ?_⟩
    · rw [hrow.cell]; simpa using hu
    · subst hw3
      exact only_set (only_set (show w.grownBy w2 (some h) from ⟨hg2.os.trans rfl, hg2.tape.trans rfl, hg2.output.trans rfl, hs2, fun b hb _ => hk2 b hb⟩) c _) (256 + c) _
  have d1 : decide ((c : Int) < 1) = false := by simpa using h1
  have d2 : decide (255 < (c : Int)) = false := by simpa using h2
  have d3 : decide ((m : Int) < 0) = false := by simp
  have d4 : decide (65536 < (m : Int)) = false := by simpa using h4
  have d5 : decide ((c : Int) < 256) = true := by simp; omega
  have hct : ((m : Int)).toNat = m := Int.toNat_natCast m
  rw [hct]
  subst hvf
  generalize ((f (c : Int)).getD []) = old0 at *
  generalize (f (c : Int)).isSome = sm at *
  have HF := hfin
  generalize hW1 : (w.alloc (.cells (bv (List.replicate m 0)).toArray 5)) = w1 at *
  have HW1 := Lib.hid hW1
  clear hW1 hct hblk2 hrow hg2 hz2 hb1 hsl hsl1 hk2 hs2 hR h3 hfin
  go_enter Tryd.func24, Tryd.ntmps24
  go_upto_region 3 with (fail)
  go_upto_region 4 with (fail)
  go_upto_region 5 with (fail)
  go_upto_region 6 with (fail)
  go_wp2
  go_ret
  obtain ⟨r1, r2⟩ := HF.out _ rfl
  exact ⟨rfl, r1, r2⟩
end Go.Proofs.YtagjmkgbfbaekaaDoor
