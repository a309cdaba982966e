/- The document's memories: Read, Write. No condition. -/
import Derived.Test.YtagjmkgbfbaekaaDoorMRefB
namespace Go.Proofs.YtagjmkgbfbaekaaDoor
open Go.RowKit
set_option maxRecDepth 100000

/-- Whether bytes may be read, or written. -/
def readF (r : Option (List UInt8)) (a n : Int) : Bool := match r with | none => false | some bs => decide (0 ≤ n ∧ 0 ≤ a ∧ a ≤ (bs.length : Int) - n)
set_option maxHeartbeats 800000 in
theorem rread_no (P : Nat → Prop) (h : Nat) (f : Int → Option (List UInt8)) (k a n : Int) (w : World) (hR : RM w P h f) (hn63 : -9223372036854775808 ≤ n ∧ n ≤ 9223372036854775807) (hno : readF (f k) a n = false) :
    Calls Tryd.prog 25 #[.pointer (some ⟨h, 0, none⟩), .int .i64 k, .int .i64 a, .int .i64 n] w fun e w' => e = .returned (.tuple #[.slice none 0 0, .bool false]) ∧ w = w' := by
  have HIN := Lib.hid (rin_any P h f k w hR)
  cases hf : f k with
  | none =>
    rw [hf] at HIN
    clear hR hf hno hn63
    go_enter Tryd.func25, Tryd.ntmps25
    go_wp2_with fail
    refine HIN.out.mono ?_
    rintro e w1 ⟨rfl, rfl⟩
    go_wp2_with fail
    go_ret2
    exact ⟨rfl, rfl⟩
  | some bs =>
    obtain ⟨c, rfl, hc1, hc⟩ := hR.key hf
    obtain ⟨v, hcell, hsl⟩ := hR.row hc
    have hsm := hR.small _ _ hf
    rw [hf] at HIN hsl hno
    simp only [Option.getD_some] at hsl
    obtain ⟨A, cc, rfl⟩ := hsl.form
    have d : decide ((c : Int) < 256) = true := by simp; omega
    have hno' : ¬ (0 ≤ n ∧ 0 ≤ a ∧ a ≤ (bs.length : Int) - n) := by simpa [readF] using hno
    obtain ⟨q, hq⟩ : ∃ q, q = bs.length := ⟨_, rfl⟩
    rw [← hq] at hcell hno' hsm
    obtain ⟨hn1, hn2⟩ := hn63
    clear hR hf hno hsl hq
    have hca : n < 0 ∨ (0 ≤ n ∧ a < 0) ∨ (0 ≤ n ∧ 0 ≤ a ∧ (q : Int) < a) ∨ (0 ≤ n ∧ 0 ≤ a ∧ a ≤ (q : Int) ∧ (q : Int) - a < n) := by omega
    clear hno'
    rcases hca with h0 | ⟨h0, h0'⟩ | ⟨h0, h0', h1⟩ | ⟨h0, h0', h1, h2⟩
    · have d1 : decide (n < 0) = true := by simpa using h0
      go_enter Tryd.func25, Tryd.ntmps25
      go_wp2_with fail
      refine HIN.out.mono ?_
      rintro e w1 ⟨rfl, rfl⟩
      go_wp2_with fail
      go_ret2
      exact ⟨rfl, rfl⟩
    · have d1 : decide (n < 0) = false := by simpa using h0
      have d2 : decide (a < 0) = true := by simpa using h0'
      go_enter Tryd.func25, Tryd.ntmps25
      go_wp2_with fail
      refine HIN.out.mono ?_
      rintro e w1 ⟨rfl, rfl⟩
      go_wp2_with fail
      go_ret2
      exact ⟨rfl, rfl⟩
    · have d1 : decide (n < 0) = false := by simpa using h0
      have d2 : decide (a < 0) = false := by simpa using h0'
      have d3 : decide ((q : Int) < a) = true := by simpa using h1
      go_enter Tryd.func25, Tryd.ntmps25
      go_wp2_with fail
      refine HIN.out.mono ?_
      rintro e w1 ⟨rfl, rfl⟩
      go_wp2_with fail
      go_ret2
      exact ⟨rfl, rfl⟩
    · have d1 : decide (n < 0) = false := by simpa using h0
      have d2 : decide (a < 0) = false := by simpa using h0'
      have d3 : decide ((q : Int) < a) = false := by simpa using h1
      have d4 : decide ((q : Int) - a < n) = true := by simpa using h2
      go_enter Tryd.func25, Tryd.ntmps25
      go_wp2_with fail
      refine HIN.out.mono ?_
      rintro e w1 ⟨rfl, rfl⟩
      go_wp2_with fail
      go_ret2
      exact ⟨rfl, rfl⟩
set_option maxHeartbeats 1600000 in
theorem rread_ok (P : Nat → Prop) (h : Nat) (f : Int → Option (List UInt8)) (k : Int) (a n : Nat) (w : World) (hR : RM w P h f) {bs : List UInt8} (hf : f k = some bs) (ha : a + n ≤ bs.length) :
    Calls Tryd.prog 25 #[.pointer (some ⟨h, 0, none⟩), .int .i64 k, .int .i64 (a : Int), .int .i64 (n : Int)] w fun e w' => ∃ v',
      e = .returned (.tuple #[v', .bool true]) ∧ Sl w' w'.heap.size v' (bv (readB bs a n)) ∧ Below w.heap.size w w' := by
  have HIN := Lib.hid (rin_any P h f k w hR)
  obtain ⟨i, hi, hz, hs1, hby⟩ := info_parts Tryd.infoB8
  obtain ⟨c, rfl, hc1, hc⟩ := hR.key hf
  obtain ⟨v, hcell, hsl⟩ := hR.row hc
  have hsm := hR.small _ _ hf
  rw [hf] at HIN hsl
  simp only [Option.getD_some] at hsl
  have d : decide ((c : Int) < 256) = true := by simp; omega
  have hlen : (readB bs a n).length = n := by unfold readB; rw [List.length_take, List.length_drop]; omega
  obtain ⟨q, hq⟩ : ∃ q, q = bs.length := ⟨_, rfl⟩
  have d1 : decide ((n : Int) < 0) = false := by simp
  have d2 : decide ((a : Int) < 0) = false := by simp
  have d3 : decide ((q : Int) < (a : Int)) = false := by simp; omega
  have d4 : decide ((q : Int) - (a : Int) < (n : Int)) = false := by simp; omega
  -- what the slice that is handed to append reads as
  have key : ∀ (A : Option Addr) (cc : Nat), SlN w w.heap.size 1 (.slice A n cc) n (bv (readB bs a n)) → ∃ v' w', (Builtin.append_ #[31, 31] 31 #[.slice none 0 0, .slice A n cc]).run Tryd.prog w = .ok v' w' ∧ Hid (w'.ownsRow w.heap.size 5 1 v' (0 + n) ([] ++ bv (readB bs a n)) ∧ Below w.heap.size w w') := by
    intro A cc hs
    obtain ⟨v', w', hr, h2, h3⟩ := run_app_own (ty := 31) Tryd.underlying31 hi hz hs1 rfl (World.ownsRow_nil w w.heap.size 5 1) hs (bv_one _) (Nat.le_refl _) ⟨by omega, .inr hby⟩
    exact ⟨v', w', hr, h2, h3⟩
  have hend : Hid (∀ v' w', Hid (w'.ownsRow w.heap.size 5 1 v' (0 + n) ([] ++ bv (readB bs a n)) ∧ Below w.heap.size w w') → Sl w' w'.heap.size v' (bv (readB bs a n)) ∧ Below w.heap.size w w') := by
    intro v' w' hx
    have h1 := hx.out.1
    rw [Nat.zero_add, List.nil_append] at h1
    have h2 : w'.ownsRow w.heap.size 5 1 v' (bv (readB bs a n)).length (bv (readB bs a n)) := by rw [bv_length, hlen]; exact h1
    exact ⟨Sl.of_own h2, hx.out.2⟩
  rcases hsl with ⟨rfl, rfl⟩ | ⟨b, cc, rfl, hn, hm, hb, _, hx⟩
  · have hq0 : q = 0 := hq
    subst hq0
    obtain rfl : a = 0 := by simp at ha; omega
    obtain rfl : n = 0 := by simp at ha; omega
    clear key hR hf hq ha hsm hlen hend
    have e0 : ((0 : Nat) : Int) = 0 := rfl
    simp only [e0] at *
    clear e0
    have d5 : decide ((0 : Int) < 0) = false := by decide
    go_enter Tryd.func25, Tryd.ntmps25
    go_wp2_with fail
    refine HIN.out.mono ?_
    rintro e w1 ⟨rfl, rfl⟩
    have hap := run_app_none (P := Tryd.prog) (w := w) (ty := 31) (n := 0) (c := 0) (c2 := 0) (A := none) (A2 := none) Tryd.underlying31 hi (Nat.le_refl _)
    clear hi hz hs1 hby
    go_wp2_with fail
    go_ret2
    exact ⟨_, rfl, Sl.nil_ _ _, Below.refl _ _⟩
  · rw [← hq] at hcell hn
    have hcc : cc ≤ 9223372036854775807 := by unfold maxLen at hm; omega
    rcases Nat.lt_or_ge a cc with h0 | h0
    · have KEY := Lib.hid (key (some ⟨b, a, none⟩) (cc - a) ⟨by rw [bv_length, hlen]; omega, _, _, rfl, by omega, by unfold maxLen; omega, (fun e => by cases e), fun _ => ⟨b, a, rfl, hb, fun j u hu => hx (a + j) u (by
        have hj := (List.getElem?_eq_some_iff.1 hu).1
        rw [bv_length, hlen] at hj
        unfold readB at hu
        rw [bv_take, List.getElem?_take_of_lt hj, bv_drop, List.getElem?_drop] at hu
        exact hu)⟩⟩)
      have KEY : Hid (∃ v' w', (Builtin.append_ #[31, 31] 31 #[.slice none 0 0, .slice (some ⟨b, a, none⟩) (a + n - a) (cc - a)]).run Tryd.prog w = .ok v' w' ∧ Hid (w'.ownsRow w.heap.size 5 1 v' (0 + n) ([] ++ bv (readB bs a n)) ∧ Below w.heap.size w w')) := by
        rw [Nat.add_sub_cancel_left]
        exact KEY.out
      clear key hR hf hsm hx hm
      go_enter Tryd.func25, Tryd.ntmps25
      go_wp2_with fail
      refine HIN.out.mono ?_
      rintro e w1 ⟨rfl, rfl⟩
      go_wp2_with (
        at_builtin
        refine wpList_app rfl _ _ _ _ rfl _ _ rfl rfl _ KEY.out ?_
        intro v1 w1 hR1)
      go_ret2
      exact ⟨_, rfl, hend.out _ _ hR1⟩
    · obtain rfl : a = cc := by omega
      obtain rfl : n = 0 := by omega
      obtain rfl : q = a := by omega
      have KEY := Lib.hid (key (some ⟨b, 0, none⟩) 0 ⟨by simp [readB, bv], _, _, rfl, Nat.le_refl _, by simp, (fun e => by cases e), fun h => absurd h (Nat.lt_irrefl _)⟩)
      clear key hR hf hsm hx hm
      have e0 : ((0 : Nat) : Int) = 0 := rfl
      simp only [e0] at *
      clear e0
      have d5 : decide ((0 : Int) < 0) = false := by decide
      go_enter Tryd.func25, Tryd.ntmps25
      go_wp2_with fail
      refine HIN.out.mono ?_
      rintro e w1 ⟨rfl, rfl⟩
      go_wp2_with (
        at_builtin
        refine wpList_app rfl _ _ _ _ rfl _ _ rfl rfl _ KEY.out ?_
        intro v1 w1 hR1)
      go_ret2
      exact ⟨_, rfl, hend.out _ _ hR1⟩

theorem rwrite_none (P : Nat → Prop) (h : Nat) (f : Int → Option (List UInt8)) (k a : Int) (v : Value) (w : World) (hR : RM w P h f) (hf : f k = none) :
    Calls Tryd.prog 26 #[.pointer (some ⟨h, 0, none⟩), .int .i64 k, .int .i64 a, v] w fun e w' => e = .returned (.int .i64 9) ∧ w = w' := by
  have HIN := Lib.hid (rin_any P h f k w hR)
  rw [hf] at HIN
  clear hR hf
  go_enter Tryd.func26, Tryd.ntmps26
  go_wp2_with fail
  refine HIN.out.mono ?_
  rintro e w1 ⟨rfl, rfl⟩
  go_wp2_with fail
  go_ret
  exact ⟨rfl, rfl⟩
set_option maxHeartbeats 800000 in
theorem rwrite_far (P : Nat → Prop) (h : Nat) (f : Int → Option (List UInt8)) (k a : Int) (v : Value) (ys : List UInt8) (w : World) (hR : RM w P h f) {bs : List UInt8} (hf : f k = some bs) (hv : Sl w w.heap.size v (bv ys)) (hbad : a < 0 ∨ (bs.length : Int) - ys.length < a) :
    Calls Tryd.prog 26 #[.pointer (some ⟨h, 0, none⟩), .int .i64 k, .int .i64 a, v] w fun e w' => e = .returned (.int .i64 8) ∧ w = w' := by
  have HIN := Lib.hid (rin_any P h f k w hR)
  obtain ⟨c, rfl, hc1, hc⟩ := hR.key hf
  obtain ⟨vr, hcell, hsl⟩ := hR.row hc
  have hsm := hR.small _ _ hf
  rw [hf] at HIN hsl
  simp only [Option.getD_some] at hsl
  obtain ⟨A, cc, rfl⟩ := hsl.form
  have d : decide ((c : Int) < 256) = true := by simp; omega
  obtain ⟨_, VA, vc, rfl, _, _, _, _⟩ := hv
  rw [bv_length]
  obtain ⟨n, hn⟩ : ∃ n, n = bs.length := ⟨_, rfl⟩
  obtain ⟨q, hq⟩ : ∃ n, n = ys.length := ⟨_, rfl⟩
  rw [← hn] at hcell hbad hsm
  rw [← hq] at hbad ⊢
  have hca : a < 0 ∨ (0 ≤ a ∧ (n : Int) < a) ∨ (0 ≤ a ∧ a ≤ (n : Int) ∧ (n : Int) - a < (q : Int)) := by omega
  clear hR hf hsl hn hq hbad
  rcases hca with h0 | ⟨h0, h1⟩ | ⟨h0, h1, h2⟩
  · have d1 : decide (a < 0) = true := by simpa using h0
    go_enter Tryd.func26, Tryd.ntmps26
    go_wp2_with fail
    refine HIN.out.mono ?_
    rintro e w1 ⟨rfl, rfl⟩
    go_wp2_with fail
    go_ret
    exact ⟨rfl, rfl⟩
  · have d1 : decide (a < 0) = false := by simpa using h0
    have d2 : decide ((n : Int) < a) = true := by simpa using h1
    go_enter Tryd.func26, Tryd.ntmps26
    go_wp2_with fail
    refine HIN.out.mono ?_
    rintro e w1 ⟨rfl, rfl⟩
    go_wp2_with fail
    go_ret
    exact ⟨rfl, rfl⟩
  · have d1 : decide (a < 0) = false := by simpa using h0
    have d2 : decide ((n : Int) < a) = false := by simpa using h1
    have d3 : decide ((n : Int) - a < (q : Int)) = true := by simpa using h2
    go_enter Tryd.func26, Tryd.ntmps26
    go_wp2_with fail
    refine HIN.out.mono ?_
    rintro e w1 ⟨rfl, rfl⟩
    go_wp2_with fail
    go_ret
    exact ⟨rfl, rfl⟩

/-- A row alone is set, of a key that is there. -/
theorem RM.put1 {w w1 : World} {P P' : Nat → Prop} {h : Nat} {f : Int → Option (List UInt8)} (hR : RM w P h f) {c : Nat} (hc1 : 1 ≤ c) (hc : c < 256) {v : Value} {bs : List UInt8} (hf : (f c).isSome = true) (hb : w1.heap[h]? = w.heap[h]?)
    (hk : ∀ b, b < w.heap.size → P b → w1.heap[b]? = w.heap[b]? ∧ P' b) (hs : w.heap.size ≤ w1.heap.size) (hv : SlP w1 (fun b => b ≠ h ∧ P' b) v bs) (hl : bs.length ≤ 65536) (w2 : World) (hw2 : w2 = w1.setCell ⟨h, c, none⟩ v) :
    RM w2 P' h (fun q => if q = (c : Int) then some bs else f q) := by
  have hR1 : RM w1 P' h f := hR.keep hb hk hs
  obtain ⟨cur, hblk, hsz, hx⟩ := hR1.cur
  have e : cur[256 + c]? = some (.bool true) := by rw [(hx c hc).2, hf]
  refine hR.put_ hc1 hc hb hk hs hv hl w2 ?_
  rw [hw2]
  have hbk := hblk.set_ c v
  have hsame : ((cur.setIfInBounds c v).setIfInBounds (256 + c) (.bool true)) = cur.setIfInBounds c v := by
    apply Array.ext'
    apply List.ext_getElem?
    intro j
    simp only [Array.getElem?_toList]
    by_cases hj : 256 + c = j
    · subst hj
      rw [Array.getElem?_setIfInBounds_self_of_lt (by simp; omega), Array.getElem?_setIfInBounds_ne (by omega), e]
    · rw [Array.getElem?_setIfInBounds_ne hj]
  have hh : (w1.setCell ⟨h, c, none⟩ v).heap[h]? = some (.cells (cur.setIfInBounds c v) 46 (0, 0)) := hbk
  have : ∀ W : World, W.heap[h]? = some (.cells (cur.setIfInBounds c v) 46 (0, 0)) → W.setCell ⟨h, 256 + c, none⟩ (.bool true) = W := by
    intro W hW
    obtain ⟨hp, tp, dr, os, out⟩ := W
    simp only [World.setCell]
    congr 1
    apply Array.ext'
    apply List.ext_getElem?
    intro j
    simp only [Array.getElem?_toList]
    by_cases hj : h = j
    · subst hj
      simp only at hW
      simp [Array.getElem?_modify, hW, hsame]
    · simp only [Array.getElem?_modify, if_neg hj]
  exact (this _ hh).symm
set_option maxHeartbeats 1600000 in
theorem rwrite_ok (P : Nat → Prop) (h : Nat) (f : Int → Option (List UInt8)) (k : Int) (a : Nat) (v : Value) (ys : List UInt8) (w : World) (hR : RM w P h f) {bs : List UInt8} (hf : f k = some bs) (hv : Sl w w.heap.size v (bv ys)) (ha : a + ys.length ≤ bs.length) :
    Calls Tryd.prog 26 #[.pointer (some ⟨h, 0, none⟩), .int .i64 k, .int .i64 (a : Int), v] w fun e w' => e = .returned (.int .i64 0) ∧
      RM w' (fun b => P b ∨ w.heap.size ≤ b) h (fun q => if q = k then some (over bs a ys) else f q) ∧ w.grownBy w' (some h) := by
  have HIN := Lib.hid (rin_any P h f k w hR)
  obtain ⟨i, hi, hz, hs1, hby⟩ := info_parts Tryd.infoB8
  obtain ⟨c, rfl, hc1, hc⟩ := hR.key hf
  obtain ⟨vr, hcell, hsl⟩ := hR.row hc
  have hsm := hR.small _ _ hf
  have HF := Lib.hid hf
  rw [hf] at HIN hsl
  simp only [Option.getD_some] at hsl
  have hslw := hsl.sl
  obtain ⟨RA, rc, hrv⟩ := hsl.form
  have d : decide ((c : Int) < 256) = true := by simp; omega
  obtain ⟨n, hn⟩ : ∃ n, n = bs.length := ⟨_, rfl⟩
  obtain ⟨q, hq⟩ : ∃ n, n = ys.length := ⟨_, rfl⟩
  have HV := Lib.hid hv
  obtain ⟨_, VA, vc, rfl, hvc, hvm, _, _⟩ := hv
  rw [bv_length, ← hq] at hvc ⊢
  have HV : Hid (Sl w w.heap.size (.slice VA q vc) (bv ys)) := by have := HV.out; rwa [bv_length, ← hq] at this
  have d1 : decide ((a : Int) < 0) = false := by simp
  have d2 : decide ((n : Int) < (a : Int)) = false := by simp; omega
  have d3 : decide ((n : Int) - (a : Int) < (q : Int)) = false := by simp; omega
  have hfr := hR.frozen c
  have HR := Lib.hid hR
  have HH : Hid (h < w.heap.size) := hR.lt
  rw [← hn] at hrv
  subst hrv
  have hrun : ∃ v' w', (Builtin.append_ #[31, 31] 31 #[.slice none 0 0, .slice RA n rc]).run Tryd.prog w = .ok v' w' ∧ Hid (w'.ownsRow w.heap.size 5 1 v' (0 + n) ([] ++ bv bs) ∧ Below w.heap.size w w') := by
    have hs : SlN w w.heap.size 1 (.slice RA n rc) n (bv bs) := by
      have := hslw
      unfold Sl at this
      rw [bv_length, ← hn] at this
      exact this
    obtain ⟨v', w', hr, h2, h3⟩ := run_app_own (ty := 31) Tryd.underlying31 hi hz hs1 rfl (World.ownsRow_nil w w.heap.size 5 1) hs (bv_one _) (Nat.le_refl _) ⟨by omega, .inr hby⟩
    exact ⟨v', w', hr, h2, h3⟩
  have RUN := Lib.hid hrun
  have hz2 : (Tryd.prog.info? 5).map (·.size) = some 1 := by rw [hi]; simp [hs1]
  have HZ := Lib.hid hz2
  have HNN := Lib.hid (And.intro hn hq)
  have HA := Lib.hid (show a + ys.length ≤ bs.length from ha)
  have hA2 : a + q ≤ n := by omega
  have hn65 : n ≤ 65536 := by omega
  unfold maxLen at hvm
  clear hR hf hsl hslw hrun hn hq ha hsm hi hz hs1 hby hz2
  go_enter Tryd.func26, Tryd.ntmps26
  go_wp2_with fail
  refine HIN.out.mono ?_
  rintro e w0 ⟨rfl, rfl⟩
  go_upto_region 6 with (
    at_builtin
    refine wpList_app rfl _ _ _ _ rfl _ _ rfl rfl _ RUN.out ?_
    intro v1 w1 hR1)
  have hown := hR1.out.1
  have hb1 := hR1.out.2
  have hc1w : w1.cell? ⟨h, c, none⟩ = some (.slice RA n rc) := (hb1.cell (p := ⟨h, c, none⟩) HH.out).trans hcell
  have hf1w : w1.frozen? ⟨h, c, none⟩ = false := (hb1.frozen (p := ⟨h, c, none⟩) HH.out).trans hfr
  have hv1 := (HV.out.below hb1).more hb1.size
  have HHB := Lib.hid hb1
  rw [Nat.zero_add, List.nil_append] at hown
  obtain ⟨hol, hox⟩ := hown
  rcases hox with ⟨rfl, hn0⟩ | ⟨g, cap, cur, rfl, hbg, hg, hncap, hcm, hcs, htk⟩
  · subst hn0
    obtain rfl : a = 0 := by omega
    obtain rfl : q = 0 := by omega
    have hcp := run_copy_none (P := Tryd.prog) w1 31 31 3 5 none VA 0 0 0 vc Tryd.underlying31 HZ.out rfl
    have hfin : Hid (RM (w1.setCell ⟨h, c, none⟩ (.slice none 0 0)) (fun b => P b ∨ w.heap.size ≤ b) h (fun q => if q = (c : Int) then some (over bs 0 ys) else f q) ∧ w.grownBy (w1.setCell ⟨h, c, none⟩ (.slice none 0 0)) (some h)) := by
      have e1 : bs = [] := List.eq_nil_of_length_eq_zero HNN.out.1.symm
      have e2 : ys = [] := List.eq_nil_of_length_eq_zero HNN.out.2.symm
      refine ⟨HR.out.put1 hc1 hc (by rw [HF.out]; rfl) (hb1.block h HH.out) (fun b hb hP => ⟨hb1.block b hb, .inl hP⟩) hb1.size (by rw [e1, e2]; exact SlP.nil_ _ _) (by rw [e1, e2]; simp [over]) _ rfl, only_set (only_of_below hb1 _) c _⟩
    clear hol hv1 hb1 hR1 hcell hfr
    have e0 : ((0 : Nat) : Int) = 0 := rfl
    simp only [e0] at *
    clear e0
    go_wp2_with fail
    go_ret
    exact ⟨rfl, hfin.out⟩
  · have hcm' : cap ≤ 9223372036854775807 := by unfold maxLen at hcm; omega
    have hsz : cur.size = cap := by simpa using hcs
    have htk' : cur.toList.take n = bv bs := by simpa using htk
    have fin : ∀ w2 (cur2 : Array Value), Blk w2 g 5 cur2 → cur2.toList.take n = bv (over bs a ys) → w1.grownBy w2 (some g) → Hid (RM (w2.setCell ⟨h, c, none⟩ (.slice (some ⟨g, 0, none⟩) n cap)) (fun b => P b ∨ w.heap.size ≤ b) h (fun q => if q = (c : Int) then some (over bs a ys) else f q) ∧ w.grownBy (w2.setCell ⟨h, c, none⟩ (.slice (some ⟨g, 0, none⟩) n cap)) (some h)) := by
      intro w2 cur2 hb2 ht2 hg2
      have hol' : (over bs a ys).length = n := by rw [HNN.out.1]; exact over_length _ _ _ HA.out
      have hk2 : ∀ b, b < w.heap.size → w2.heap[b]? = w.heap[b]? := fun b hb => (hg2.block b (by have := hb1.size; omega) (fun e => by injection e with e; omega)).trans (hb1.block b hb)
      have hs2 : w.heap.size ≤ w2.heap.size := Nat.le_trans hb1.size hg2.size
      refine ⟨HR.out.put1 hc1 hc (by rw [HF.out]; rfl) (hk2 h HH.out) (fun b hb hP => ⟨hk2 b hb, .inl hP⟩) hs2 (.inr ⟨g, cap, by rw [hol'], by omega, hcm, hb2.lt, ⟨by have := HH.out; omega, .inr hbg⟩, fun j u hu => ?_⟩) (by omega) _ rfl, only_set ⟨hg2.os.trans hb1.os, hg2.tape.trans hb1.tape, hg2.output.trans hb1.output, hs2, fun b hb _ => hk2 b hb⟩ c _⟩
      rw [hb2.cell]
      have hj := (List.getElem?_eq_some_iff.1 hu).1
      rw [bv_length, hol'] at hj
      rw [← ht2, List.getElem?_take_of_lt hj] at hu
      simpa using hu
    have hgh : h ≠ g := by have := HH.out; omega
    rcases Nat.lt_or_ge a cap with h0 | h0
    · obtain ⟨w2, hcp, hb2, hg2, hz2⟩ := run_copy_any w1 3 (some ⟨g, a, none⟩) (n - a) (cap - a) g a cur ys (.slice VA q vc) hg hv1 (fun _ => rfl) (by rw [← HNN.out.2, Nat.min_eq_left (by omega)]; omega)
      rw [← HNN.out.2, Nat.min_eq_left (by omega)] at hcp
      rw [List.take_of_length_le (show ys.length ≤ n - a by rw [← HNN.out.2]; omega)] at hb2
      have hfin := fin w2 _ hb2 (by
        have e := splice_take cur.toList (bv ys) a n (by rw [bv_length, ← HNN.out.2]; omega) (by simp; omega)
        rw [bv_length] at e
        rw [List.toList_toArray, e, htk', ← over_bv]
        simp [splice, bv_length]) hg2
      have c2 : w2.cell? ⟨h, c, none⟩ = some (.slice RA n rc) := (cell_same (hg2.block h (by have := HH.out; have := HHB.out.size; omega) (fun e => hgh (by injection e)))).trans hc1w
      have f2 : w2.frozen? ⟨h, c, none⟩ = false := by
        have := hg2.block h (by have := HH.out; have := HHB.out.size; omega) (fun e => hgh (by injection e))
        rw [← hf1w]; simp [World.frozen?, this]
      clear fin hb2 hg2 hz2 hv1 hb1 hR1 hcell hfr hg htk htk' hcs hol
      go_wp2_with fail
      go_ret
      exact ⟨rfl, hfin.out⟩
    · obtain rfl : a = n := by omega
      obtain rfl : q = 0 := by omega
      have hcp := run_copy_none (P := Tryd.prog) w1 31 31 3 5 (some ⟨g, 0, none⟩) VA 0 0 0 vc Tryd.underlying31 HZ.out rfl
      have hfin := fin w1 cur hg (by
        have e2 : ys = [] := List.eq_nil_of_length_eq_zero HNN.out.2.symm
        rw [htk', e2]
        simp [over]) (only_refl _ _)
      obtain rfl : cap = a := by omega
      clear fin hv1 hb1 hR1 hcell hfr hg htk htk' hcs hol
      go_wp2_with fail
      go_ret
      exact ⟨rfl, hfin.out⟩
end Go.Proofs.YtagjmkgbfbaekaaDoor
