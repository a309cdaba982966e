/- The contract of word.get, and of GetText and GetList over it. No condition. -/
import Derived.Test.YtnaagmjjnapklaaDoorWordG
namespace Go.Proofs.YtnaagmjjnapklaaDoor
open Go.RowKit
set_option maxRecDepth 100000

theorem leV_nonneg (bs : List UInt8) (k : Nat) : 0 ≤ leV bs k ∧ leV bs k < 4294967296 := by
  have h0 := byteAt_lt bs k
  have h1 := byteAt_lt bs (k + 1)
  have h2 := byteAt_lt bs (k + 2)
  have h3 := byteAt_lt bs (k + 3)
  unfold leV; omega
/-- What get answers: the error's number. -/
def gotE (bs : List UInt8) (at_ : Int) (least : Nat) : Nat :=
  if getE bs at_ ≠ 0 then getE bs at_ else
  if leV bs at_.toNat < least then 3 else
  if 4096 < leV bs at_.toNat then 4 else
  if bs.length < at_.toNat + 4 + fillN (leV bs at_.toNat).toNat then 2 else
  if (bs.drop (at_.toNat + 4 + (leV bs at_.toNat).toNat)).take (fillN (leV bs at_.toNat).toNat - (leV bs at_.toNat).toNat) = List.replicate (fillN (leV bs at_.toNat).toNat - (leV bs at_.toNat).toNat) 0 then 0 else 3
/-- The bytes; the place behind their filling. -/
def gotS (bs : List UInt8) (at_ : Int) : List UInt8 := (bs.drop (at_.toNat + 4)).take (leV bs at_.toNat).toNat
def gotN (bs : List UInt8) (at_ : Int) : Nat := at_.toNat + 4 + fillN (leV bs at_.toNat).toNat

set_option maxHeartbeats 400000 in
theorem got_err (A : Nat → Addr) (S : List Nat) (v : Value) (bs : List UInt8) (at_ least : Int) (w : World) (h : Sl w w.heap.size v (bv bs)) (hE : Errs w w.heap.size S A) (h1 : 1 ∈ S) (h2 : 2 ∈ S) (he : getE bs at_ ≠ 0) :
    Calls Tryd.prog 30 #[v, .int .i64 at_, .int .i64 least] w fun e w' => e = .returned (.tuple #[.string (strB []), .int .i64 0, errV A (getE bs at_)]) ∧ Below w.heap.size w w' := by
  obtain ⟨k, hk⟩ : ∃ k, k = getE bs at_ := ⟨_, rfl⟩
  rw [← hk] at he ⊢
  rw [errV_pos A (by omega)]
  have HK := Lib.hid hk
  have hp : 0 < k := by omega
  clear hk he
  go_enter Tryd.func30, Tryd.ntmps30
  go_wp2_with fail
  refine (get_any A S v bs at_ w h hE h1 h2).mono ?_
  rintro e w1 ⟨rfl, hb1⟩
  rw [← HK.out, errV_pos A hp]
  go_wp2
  refine bodyPost_ret (results_tmp3 rfl _ _ _) rfl ?_
  exact ⟨rfl, hb1⟩

set_option maxHeartbeats 800000 in
theorem got_big (A : Nat → Addr) (S : List Nat) (v : Value) (bs : List UInt8) (at_ least : Nat) (w : World) (h : Sl w w.heap.size v (bv bs)) (hE : Errs w w.heap.size S A) (h3 : 3 ∈ S) (h4 : 4 ∈ S)
    (hat : at_ + 4 ≤ bs.length) (hl : least ≤ 1) (k : Nat) (hk : k = if leV bs at_ < least then 3 else 4) (hb : leV bs at_ < least ∨ 4096 < leV bs at_) :
    Calls Tryd.prog 30 #[v, .int .i64 at_, .int .i64 least] w fun e w' => e = .returned (.tuple #[.string (strB []), .int .i64 0, errV A k]) ∧ Below w.heap.size w w' := by
  obtain ⟨l0, l1⟩ := leV_nonneg bs at_
  have hkp : 0 < k := by rw [hk]; split <;> omega
  rw [errV_pos A hkp]
  go_enter Tryd.func30, Tryd.ntmps30
  go_wp2_with fail
  refine (get_ok v bs at_ w h hat).mono ?_
  rintro e w1 ⟨rfl, hb1⟩
  have c3 : w1.cell? ⟨2, 0, none⟩ = some (.iface 70 (.pointer (some (A 3)))) := (hE.below hb1).var h3
  have c4 : w1.cell? ⟨3, 0, none⟩ = some (.iface 70 (.pointer (some (A 4)))) := (hE.below hb1).var h4
  obtain ⟨x, hx⟩ : ∃ x, x = leV bs at_ := ⟨_, rfl⟩
  rw [← hx] at l0 l1 hk hb ⊢
  clear hx hE h
  by_cases hlt : x < least
  · rw [if_pos hlt] at hk
    subst hk
    clear hb hkp
    go_wp2
    all_goals (go_quiet (fail))
    all_goals (try go_wp2)
    all_goals refine bodyPost_ret (results_tmp3 rfl _ _ _) rfl ?_
    all_goals exact ⟨rfl, below_drewN hb1 _⟩
  · rw [if_neg hlt] at hk
    subst hk
    have hbig : 4096 < x := by omega
    clear hb hkp
    go_wp2
    all_goals (go_quiet (fail))
    all_goals (try go_wp2)
    all_goals refine bodyPost_ret (results_tmp3 rfl _ _ _) rfl ?_
    all_goals exact ⟨rfl, below_drewN hb1 _⟩

set_option maxHeartbeats 800000 in
theorem got_cut (A : Nat → Addr) (S : List Nat) (v : Value) (bs : List UInt8) (at_ least n : Nat) (w : World) (h : Sl w w.heap.size v (bv bs)) (hE : Errs w w.heap.size S A) (h2 : 2 ∈ S)
    (hat : at_ + 4 ≤ bs.length) (hl : least ≤ 1) (hn : leV bs at_ = n) (hln : least ≤ n) (hn4 : n ≤ 4096) (hc : bs.length < at_ + 4 + fillN n) :
    Calls Tryd.prog 30 #[v, .int .i64 at_, .int .i64 least] w fun e w' => e = .returned (.tuple #[.string (strB []), .int .i64 0, errV A 2]) ∧ Below w.heap.size w w' := by
  rw [errV_pos A (by omega)]
  have hfl := fillN_lt n
  have hfg := fillN_ge n
  go_enter Tryd.func30, Tryd.ntmps30
  go_wp2_with fail
  refine (get_ok v bs at_ w h hat).mono ?_
  rintro e w1 ⟨rfl, hb1⟩
  have c2 : w1.cell? ⟨1, 0, none⟩ = some (.iface 70 (.pointer (some (A 2)))) := (hE.below hb1).var h2
  obtain ⟨_, Ad, c, hv, hcc, hm, _, hx⟩ := h
  rw [bv_length] at hv hcc
  obtain ⟨m, hm2⟩ : ∃ m, m = bs.length := ⟨_, rfl⟩
  rw [← hm2] at hv hcc hat hc
  subst hv
  unfold maxLen at hm
  rw [hn]
  clear hm2 hE hx hn
  go_wp2_with fail
  refine (filled_any _ _ (by omega)).mono ?_
  rintro e w2 ⟨rfl, rfl⟩
  go_wp2_with fail
  all_goals (go_quiet (fail))
  all_goals (try go_wp2)
  all_goals refine bodyPost_ret (results_tmp3 rfl _ _ _) rfl ?_
  all_goals exact ⟨rfl, below_drewN hb1 _⟩

theorem empty_of_zero {P : Program} {w : World} {src e dst : TypeId} {A : Option Addr} {c : Nat} (hs : P.underlying src = some (.slice e)) (he : P.underlying e = some (.int .u8)) (hd : P.underlying dst = some .string) :
    (convert src dst (.slice A 0 c)).run P w = .ok (.string (strB [])) w := by
  rcases A with _ | a
  · exact run_convert_bytes_nil w src e hs he 0 c dst hd
  · have hl2 : (loadCells a 0).run P w = .ok (([] : List Int).map (Value.int .u8)).toArray w := by
      have := run_loadCells_list (P := P) w a [] (fun j u hu => by simp at hu)
      simpa using this
    rw [run_convert_bytes_string w src dst e _ 0 c hs he hd, run_bytesToString w _ 0 c _ hl2]
    rfl

def ZeroRel (bs : List UInt8) (s0 m : Nat) (i : Value) : Prop := ∃ k : Nat, k ≤ m ∧ i = .int .i64 k ∧ ∀ j, j < k → byteAt bs (s0 + j) = 0

set_option maxHeartbeats 1600000 in
theorem got_rest (A : Nat → Addr) (S : List Nat) (v : Value) (bs : List UInt8) (at_ least n : Nat) (w : World) (h : Sl w w.heap.size v (bv bs)) (hE : Errs w w.heap.size S A) (h3 : 3 ∈ S)
    (hat : at_ + 4 ≤ bs.length) (hl : least ≤ 1) (hn : leV bs at_ = n) (hln : least ≤ n) (hn4 : n ≤ 4096) (hc : at_ + 4 + fillN n ≤ bs.length) :
    Calls Tryd.prog 30 #[v, .int .i64 at_, .int .i64 least] w fun e w' =>
      (((∀ j, j < fillN n - n → byteAt bs (at_ + 4 + n + j) = 0) ∧ e = .returned (.tuple #[.string (strB ((bs.drop (at_ + 4)).take n)), .int .i64 (at_ + 4 + fillN n : Nat), errV A 0])) ∨
       ((∃ j, j < fillN n - n ∧ byteAt bs (at_ + 4 + n + j) ≠ 0) ∧ e = .returned (.tuple #[.string (strB []), .int .i64 0, errV A 3]))) ∧ Below w.heap.size w w' := by
  have hfl := fillN_lt n
  have hfg := fillN_ge n
  obtain ⟨m, hm⟩ : ∃ m, m = fillN n - n := ⟨_, rfl⟩
  have hfe : Hid (((fillN n : Nat) : Int) = n + m) := by show _ = _; omega
  have HS := Lib.hid h
  go_enter Tryd.func30, Tryd.ntmps30
  go_wp2_with fail
  refine (get_ok v bs at_ w h hat).mono ?_
  rintro e w1 ⟨rfl, hb1⟩
  have c3 : w1.cell? ⟨2, 0, none⟩ = some (.iface 70 (.pointer (some (A 3)))) := (hE.below hb1).var h3
  obtain ⟨_, Ad, c, hv, hcc, hmm, _, hx⟩ := h
  rw [bv_length] at hv hcc hx
  obtain ⟨b, off, rfl, hB, hx⟩ := hx (by omega)
  obtain ⟨l, hl2⟩ : ∃ l, l = bs.length := ⟨_, rfl⟩
  rw [← hl2] at hv hcc hat hc
  subst hv
  unfold maxLen at hmm
  rw [hn]
  have HX := Lib.hid (And.intro hl2 (And.intro hB (And.intro hx (And.intro hm hn))))
  have hml : at_ + 4 + n + m ≤ l := by omega
  clear hl2 hE hx hn hm hfl hfg hc
  go_wp2_with fail
  refine (filled_any _ _ (by omega)).mono ?_
  rintro e w2 ⟨rfl, rfl⟩
  rw [hfe.out]
  go_wp2_with fail
  refine (filled_any _ _ (by omega)).mono ?_
  rintro e w2 ⟨rfl, rfl⟩
  rw [hfe.out]
  have hcv : (convert 23 9 (.slice (some ⟨b, off + (at_ + 4), none⟩) n (c - (at_ + 4)))).run Tryd.prog w1 = .ok (.string (strB ((bs.drop (at_ + 4)).take n))) w1 := by
    refine conv_str Tryd.underlying23 Tryd.underlying5 Tryd.underlying9 (B := w.heap.size) (n := n) ?_
    have hll := HX.out.1
    refine ⟨by rw [bv_length]; simp; omega, _, _, rfl, by omega, by unfold maxLen; omega, (fun h => by cases h), fun hn => ⟨b, _, rfl, HX.out.2.1, fun j u hu => ?_⟩⟩
    rw [bv_take, bv_drop] at hu
    have hj : j < n := by
      have := (List.getElem?_eq_some_iff.1 hu).1
      simp at this; omega
    rw [List.getElem?_take_of_lt hj, List.getElem?_drop] at hu
    have := HX.out.2.2.1 _ _ hu
    rw [← this, Nat.add_assoc off]
    exact hb1.cell (p := ⟨b, off + (at_ + 4 + j), none⟩) HX.out.2.1
  have HCV := Lib.hid hcv
  clear hcv
  have HN : Hid (((at_ + 4 + fillN n : Nat) : Int) = at_ + 4 + (n + m)) := by
    have := hfe.out
    show _ = _
    omega
  by_cases hcap : c = at_ + 4 + n
  · obtain rfl : m = 0 := by omega
    obtain ⟨wn, hwn⟩ : ∃ x, x = (bs.drop (at_ + 4)).take n := ⟨_, rfl⟩
    have HWN := Lib.hid hwn
    rcases Nat.eq_zero_or_pos n with rfl | hn0
    · have hwe : wn = [] := by rw [hwn]; simp
      subst hwe
      clear hwn
      have h0 := empty_of_zero (P := Tryd.prog) (w := w1) (A := some ⟨b, off, none⟩) (c := 0) Tryd.underlying23 Tryd.underlying5 Tryd.underlying9
      subst hcap
      go_wp2_with fail
      refine wp_loop_rounds 1 ?_
      rw [rounds_succ]
      go_wp2_with fail
      refine bodyPost_ret (results_tmp3 rfl _ _ _) rfl ?_
      exact ⟨.inl ⟨fun j hj => by have := HX.out.2.2.2.1; omega, by first | (rw [HN.out, ← HWN.out]; rfl) | (rw [hfe.out, ← HWN.out]; rfl)⟩, hb1⟩
    · have hcv := HCV.out
      rw [← HWN.out] at hcv
      clear hwn
      subst hcap
      rw [Nat.add_sub_cancel_left] at hcv
      go_wp2_with fail
      refine wp_loop_rounds 1 ?_
      rw [rounds_succ]
      go_wp2_with fail
      refine bodyPost_ret (results_tmp3 rfl _ _ _) rfl ?_
      exact ⟨.inl ⟨fun j hj => by have := HX.out.2.2.2.1; omega, by first | (rw [HN.out, ← HWN.out]; rfl) | (rw [hfe.out, ← HWN.out]; rfl)⟩, hb1⟩
  · go_wp2_with fail
    go_loop [58] (ZeroRel bs (at_ + 4 + n) m) (fun i => m - (intOf i).toNat)
    case atStart => exact ⟨0, Nat.zero_le _, rfl, fun j hj => absurd hj (Nat.not_lt_zero _)⟩
    case round =>
      obtain ⟨k, hk, rfl, hz⟩ := hrel
      have HZ := Lib.hid hz
      clear hz
      obtain ⟨y, hy⟩ : ∃ y, y = byteAt bs (at_ + 4 + n + k) := ⟨_, rfl⟩
      have hcell : k < m → w1.cell? ⟨b, off + (at_ + 4 + n) + k, none⟩ = some (.int .u8 y) := fun hkm => by
        rw [hy]
        have := HX.out.2.2.1 (at_ + 4 + n + k) _ (bv_at bs (at_ + 4 + n + k) (by have := HX.out.1; omega))
        rw [← this, Nat.add_assoc]
        exact hb1.cell (p := ⟨b, off + (at_ + 4 + n + k), none⟩) HX.out.2.1
      have HY := Lib.hid hy
      clear hy
      by_cases hkm : k < m
      · have hcr := hcell hkm
        clear hcell
        by_cases hy0 : y = 0
        · have hne : (y != 0) = false := by simp [hy0]
          have HY0 := Lib.hid hy0
          clear hy0
          go_wp2_with fail
          go_round
          case rel => exact ⟨k + 1, by omega, by go_num, fun j hj => by
            rcases Nat.lt_succ_iff_lt_or_eq.1 hj with h | rfl
            · exact HZ.out j h
            · rw [← HY.out]; exact HY0.out⟩
          case measure => simp [intOf]; omega
        · have hne : (y != 0) = true := by simpa using hy0
          have HY0 := Lib.hid hy0
          clear hy0
          go_wp2_with fail
          all_goals (go_quiet (fail))
          all_goals (try go_wp2)
          all_goals refine bodyPost_ret (results_tmp3 rfl _ _ _) rfl ?_
          all_goals exact ⟨.inr ⟨⟨k, by rw [← HX.out.2.2.2.1]; exact hkm, by rw [← HY.out]; exact HY0.out⟩, rfl⟩, below_drewN hb1 _⟩
      · clear hcell
        obtain rfl : k = m := by omega
        have hcv := HCV.out
        go_wp2_with fail
        refine bodyPost_ret (results_tmp3 rfl _ _ _) rfl ?_
        exact ⟨.inl ⟨fun j hj => HZ.out j (by rw [HX.out.2.2.2.1]; exact hj), by first | (rw [HN.out]; rfl) | (rw [hfe.out]; rfl)⟩, hb1⟩

theorem zeros_iff (bs : List UInt8) (s p : Nat) (h : s + p ≤ bs.length) : (∀ j, j < p → byteAt bs (s + j) = 0) ↔ (bs.drop s).take p = List.replicate p 0 := by
  constructor
  · intro hz
    apply List.ext_getElem
    · simp; omega
    · intro j h1 h2
      have hj : j < p := by simpa using h2
      have := hz j hj
      have hlt : s + j < bs.length := by omega
      simp only [List.getElem_take, List.getElem_drop, List.getElem_replicate]
      simp only [byteAt, List.getElem?_eq_getElem hlt, Option.getD_some] at this
      exact UInt8.toNat_inj.1 (by simpa using this)
  · intro he j hj
    have hlt : s + j < bs.length := by omega
    have h1 : ((bs.drop s).take p)[j]? = some (bs[s + j]) := by
      rw [List.getElem?_take_of_lt hj, List.getElem?_drop, List.getElem?_eq_getElem hlt]
    rw [he, List.getElem?_replicate, if_pos hj] at h1
    simp only [byteAt, List.getElem?_eq_getElem hlt, Option.getD_some]
    rw [← Option.some.inj h1]; rfl

/-- get's answer, whole. -/
def gotR (A : Nat → Addr) (bs : List UInt8) (at_ : Int) (least : Nat) : Value :=
  if gotE bs at_ least = 0 then .tuple #[.string (strB (gotS bs at_)), .int .i64 (gotN bs at_), .nilIface] else .tuple #[.string (strB []), .int .i64 0, errV A (gotE bs at_ least)]

theorem gets_any (A : Nat → Addr) (S : List Nat) (v : Value) (bs : List UInt8) (at_ : Int) (least : Nat) (w : World) (h : Sl w w.heap.size v (bv bs)) (hE : Errs w w.heap.size S A) (h1 : 1 ∈ S) (h2 : 2 ∈ S) (h3 : 3 ∈ S) (h4 : 4 ∈ S) (hl : least ≤ 1) :
    Calls Tryd.prog 30 #[v, .int .i64 at_, .int .i64 least] w fun e w' => e = .returned (gotR A bs at_ least) ∧ Below w.heap.size w w' := by
  by_cases he : getE bs at_ ≠ 0
  · have e1 : gotE bs at_ least = getE bs at_ := by simp only [gotE]; rw [if_pos he]
    refine (got_err A S v bs at_ least w h hE h1 h2 he).mono fun e w' ⟨h5, h6⟩ => ⟨?_, h6⟩
    rw [h5, gotR, e1, if_neg he]
  · have h0 : ¬ at_ < 0 ∧ ¬ (bs.length : Int) < at_ ∧ ¬ (bs.length : Int) - at_ < 4 := by
      have he' : getE bs at_ = 0 := by omega
      unfold getE at he'
      split at he'
      · omega
      · split at he' <;> omega
    obtain ⟨k, rfl⟩ := Int.eq_ofNat_of_zero_le (show 0 ≤ at_ by omega)
    obtain ⟨l0, l1⟩ := leV_nonneg bs k
    have hk : (k : Int).toNat = k := Int.toNat_natCast k
    by_cases hb : leV bs k < least ∨ 4096 < leV bs k
    · have e1 : gotE bs k least = if leV bs k < least then 3 else 4 := by
        simp only [gotE, hk]
        rw [if_neg he]
        by_cases c : leV bs k < least
        · rw [if_pos c, if_pos c]
        · rw [if_neg c, if_neg c, if_pos (by omega)]
      refine (got_big A S v bs k least w h hE h3 h4 (by omega) hl _ e1 hb).mono fun e w' ⟨h5, h6⟩ => ⟨?_, h6⟩
      rw [h5, gotR, if_neg]
      rw [e1]; split <;> omega
    · obtain ⟨n, hn⟩ := Int.eq_ofNat_of_zero_le l0
      have hn' : (leV bs k).toNat = n := by omega
      by_cases hc : bs.length < k + 4 + fillN n
      · have e1 : gotE bs k least = 2 := by
          simp only [gotE, hk, hn']
          rw [if_neg he, if_neg (by omega), if_neg (by omega), if_pos hc]
        refine (got_cut A S v bs k least n w h hE h2 (by omega) hl hn (by omega) (by omega) hc).mono fun e w' ⟨h5, h6⟩ => ⟨?_, h6⟩
        rw [h5, gotR, e1]; rfl
      · refine (got_rest A S v bs k least n w h hE h3 (by omega) hl hn (by omega) (by omega) (by omega)).mono fun e w' ⟨h5, h6⟩ => ⟨?_, h6⟩
        have hz := zeros_iff bs (k + 4 + n) (fillN n - n) (by have := fillN_ge n; omega)
        rcases h5 with ⟨h5, h7⟩ | ⟨⟨j, hj, hne⟩, h7⟩
        · have e1 : gotE bs k least = 0 := by
            simp only [gotE, hk, hn']
            rw [if_neg he, if_neg (by omega), if_neg (by omega), if_neg hc, if_pos (hz.1 h5)]
          rw [h7, gotR, e1]
          simp only [gotS, gotN, hk, hn']
          rfl
        · have e1 : gotE bs k least = 3 := by
            simp only [gotE, hk, hn']
            rw [if_neg he, if_neg (by omega), if_neg (by omega), if_neg hc, if_neg (fun h => hne (hz.2 h j hj))]
          rw [h7, gotR, e1]; rfl

set_option maxHeartbeats 400000 in
theorem getList_any (A : Nat → Addr) (S : List Nat) (v : Value) (bs : List UInt8) (at_ : Int) (w : World) (h : Sl w w.heap.size v (bv bs)) (hE : Errs w w.heap.size S A) (h1 : 1 ∈ S) (h2 : 2 ∈ S) (h3 : 3 ∈ S) (h4 : 4 ∈ S) :
    Calls Tryd.prog 15 #[v, .int .i64 at_] w fun e w' => e = .returned (gotR A bs at_ 0) ∧ Below w.heap.size w w' := by
  have hx : ∃ (s : ByteArray) (n : Int) (x : Value), gotR A bs at_ 0 = .tuple #[.string s, .int .i64 n, x] := by
    unfold gotR; split <;> exact ⟨_, _, _, rfl⟩
  obtain ⟨s, n, x, hx⟩ := hx
  have H := gets_any A S v bs at_ 0 w h hE h1 h2 h3 h4 (by omega)
  rw [hx] at H ⊢
  have HH := Lib.hid H
  clear H hx
  go_enter Tryd.func15, Tryd.ntmps15
  go_wp2_with fail
  refine HH.out.mono ?_
  rintro e w1 ⟨rfl, hb1⟩
  go_wp2
  refine bodyPost_ret (results_tmp3 rfl _ _ _) rfl ?_
  exact ⟨rfl, hb1⟩
end Go.Proofs.YtnaagmjjnapklaaDoor
