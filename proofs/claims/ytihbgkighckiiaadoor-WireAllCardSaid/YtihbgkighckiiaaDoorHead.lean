/- wire.Head and the document's. No condition but that the errors stand in memory. -/
import Derived.Test.YtihbgkighckiiaaDoorRef1
import Derived.Test.YtihbgkighckiiaaDoorKind
import Derived.Deep.QuietTactic
import Derived.BigQuiet
namespace Go.Proofs.YtihbgkighckiiaaDoor
open Go.RowKit
set_option maxRecDepth 100000

theorem results_tmp4 {fn : Func} {t u v x : Tmp} (h : fn.results = #[.tmp t, .tmp u, .tmp v, .tmp x]) (tmps : Array Value) (P : Program) (w : World) :
    (results fn tmps).run P w = .ok (.tuple #[tmps.getD t undef, tmps.getD u undef, tmps.getD v undef, tmps.getD x undef]) w := by
  simp [results, h]
/-- What a head tells. -/
def headE (bs : List UInt8) : Nat := if bs.length < 8 then 2 else if leV bs 4 / 65536 < 8 ∨ leV bs 4 / 65536 % 4 ≠ 0 then 3 else if 4096 < leV bs 4 / 65536 then 4 else 0
def headO (bs : List UInt8) : Int := if headE bs = 0 then leV bs 0 else 0
def headP (bs : List UInt8) : Int := if headE bs = 0 then leV bs 4 % 65536 else 0
def headN (bs : List UInt8) : Int := if headE bs = 0 then leV bs 4 / 65536 else 0
theorem headE_le (bs : List UInt8) : headE bs ≤ 16 := by unfold headE; split; omega; split; omega; split <;> omega
theorem head_err {bs : List UInt8} {k : Nat} (h : headE bs = k) (hk : k ≠ 0) : headO bs = 0 ∧ headP bs = 0 ∧ headN bs = 0 := by
  unfold headO headP headN; simp [h, hk]
theorem head_ok {bs : List UInt8} (h : headE bs = 0) : headO bs = leV bs 0 ∧ headP bs = leV bs 4 % 65536 ∧ headN bs = leV bs 4 / 65536 := by
  unfold headO headP headN; rw [h]; exact ⟨rfl, rfl, rfl⟩

def HeadPost (A : Nat → Addr) (bs : List UInt8) (w : World) (e : Ending) (w' : World) : Prop := e = .returned (.tuple #[.int .i64 (headO bs), .int .i64 (headP bs), .int .i64 (headN bs), errV A (headE bs)]) ∧ Below w.heap.size w w'
def RHeadPost (bs : List UInt8) (w : World) (e : Ending) (w' : World) : Prop := e = .returned (.tuple #[.int .i64 (headO bs), .int .i64 (headP bs), .int .i64 (headN bs), .int .i64 (headE bs)]) ∧ Below w.heap.size w w'
theorem headPost_err {A : Nat → Addr} {bs : List UInt8} {w w' : World} {k : Nat} (h : headE bs = k) (hk : k ≠ 0) (hb : Below w.heap.size w w') : HeadPost A bs w (.returned (.tuple #[.int .i64 0, .int .i64 0, .int .i64 0, .iface 121 (.pointer (some (A k)))])) w' := by
  obtain ⟨h1, h2, h3⟩ := head_err h hk
  refine ⟨?_, hb⟩
  rw [h1, h2, h3, h, errV_pos A (by omega)]
theorem headPost_ok {A : Nat → Addr} {bs : List UInt8} {w w' : World} (h : headE bs = 0) (hb : Below w.heap.size w w') : HeadPost A bs w (.returned (.tuple #[.int .i64 (leV bs 0), .int .i64 (leV bs 4 % 65536), .int .i64 (leV bs 4 / 65536), .nilIface])) w' := by
  obtain ⟨h1, h2, h3⟩ := head_ok h
  refine ⟨?_, hb⟩
  rw [h1, h2, h3, h]; rfl
theorem rheadPost_err {bs : List UInt8} {w w' : World} {k : Nat} (h : headE bs = k) (hk : k ≠ 0) (hb : Below w.heap.size w w') : RHeadPost bs w (.returned (.tuple #[.int .i64 0, .int .i64 0, .int .i64 0, .int .i64 k])) w' := by
  obtain ⟨h1, h2, h3⟩ := head_err h hk
  refine ⟨?_, hb⟩
  rw [h1, h2, h3, h]
theorem rheadPost_ok {bs : List UInt8} {w w' : World} (h : headE bs = 0) (hb : Below w.heap.size w w') : RHeadPost bs w (.returned (.tuple #[.int .i64 (leV bs 0), .int .i64 (leV bs 4 % 65536), .int .i64 (leV bs 4 / 65536), .int .i64 0])) w' := by
  obtain ⟨h1, h2, h3⟩ := head_ok h
  refine ⟨?_, hb⟩
  rw [h1, h2, h3, h]; rfl
theorem leV_bd (bs : List UInt8) (k : Nat) : 0 ≤ leV bs k ∧ leV bs k < 4294967296 := by
  have h0 := byteAt_lt bs k
  have h1 := byteAt_lt bs (k + 1)
  have h2 := byteAt_lt bs (k + 2)
  have h3 := byteAt_lt bs (k + 3)
  unfold leV; omega

theorem and_65535 (y : Int) (h0 : 0 ≤ y) (h1 : y < 4294967296) : bits .and .u32 y 65535 = y % 65536 := by
  obtain ⟨n, rfl⟩ := Int.eq_ofNat_of_zero_le h0
  have e := u32_and_nat n 65535 (by omega) (by omega)
  have e2 : n &&& 65535 = n % 65536 := Nat.and_two_pow_sub_one_eq_mod n 16
  rw [e2] at e
  simpa using e

theorem hget_ok (v : Value) (bs : List UInt8) (a : Int) (k : Nat) (ha : a = k) (x : Int) (hx : leV bs k = x) (w : World) (h : Sl w w.heap.size v (bv bs)) (hat : k + 4 ≤ bs.length) :
    Calls Tryd.prog 37 #[v, .int .i64 a] w fun e w' => e = .returned (.tuple #[.int .u32 x, .nilIface]) ∧ Below w.heap.size w w' := by subst ha hx; exact get_ok v bs k w h hat
theorem hget_short (A : Nat → Addr) (S : List Nat) (v : Value) (bs : List UInt8) (a : Int) (k : Nat) (ha : a = k) (w : World) (h : Sl w w.heap.size v (bv bs)) (hE : Errs w w.heap.size S A) (h2 : 2 ∈ S) (hat : k ≤ bs.length) (hs : bs.length < k + 4) :
    Calls Tryd.prog 37 #[v, .int .i64 a] w fun e w' => e = .returned (.tuple #[.int .u32 0, .iface 121 (.pointer (some (A 2)))]) ∧ Below w.heap.size w w' := by subst ha; exact get_short A S v bs k w h hE h2 hat hs
theorem hrget_ok (v : Value) (bs : List UInt8) (a : Int) (k : Nat) (ha : a = k) (x : Int) (hx : leV bs k = x) (w : World) (h : Sl w w.heap.size v (bv bs)) (hat : k + 4 ≤ bs.length) :
    Calls Tryd.prog 46 #[v, .int .i64 a] w fun e w' => e = .returned (.tuple #[.int .u32 x, .int .i64 0]) ∧ Below w.heap.size w w' := by subst ha hx; exact rget_ok v bs k w h hat

set_option maxHeartbeats 1600000 in
theorem head_any (A : Nat → Addr) (S : List Nat) (v : Value) (bs : List UInt8) (w : World) (h : Sl w w.heap.size v (bv bs)) (hE : Errs w w.heap.size S A) (h2 : 2 ∈ S) (h3 : 3 ∈ S) (h4 : 4 ∈ S) :
    Calls Tryd.prog 17 #[v] w (HeadPost A bs w) := by
  have HS := Lib.hid h
  have HE := Lib.hid hE
  clear h hE
  rcases Nat.lt_or_ge bs.length 4 with hl | hl
  · have he : Hid (headE bs = 2) := by show _ = _; unfold headE; rw [if_pos (by omega)]
    have HL := Lib.hid hl
    clear hl
    go_enter Tryd.func17, Tryd.ntmps17
    go_wp2_with fail
    refine (hget_short A S v bs 0 0 rfl w HS.out HE.out h2 (by omega) (by have := HL.out; omega)).mono ?_
    rintro e w1 ⟨rfl, hb1⟩
    go_wp2
    refine bodyPost_ret (results_tmp4 rfl _ _ _) rfl ?_
    exact headPost_err he.out (by omega) hb1
  · rcases Nat.lt_or_ge bs.length 8 with hl8 | hl8
    · have he : Hid (headE bs = 2) := by show _ = _; unfold headE; rw [if_pos (by omega)]
      have HL := Lib.hid hl
      have HL8 := Lib.hid hl8
      obtain ⟨x, hx⟩ : ∃ x, leV bs 0 = x := ⟨_, rfl⟩
      have HX := Lib.hid hx
      clear hl hl8 hx
      go_enter Tryd.func17, Tryd.ntmps17
      go_wp2_with fail
      refine (hget_ok v bs 0 0 rfl x HX.out w HS.out (by have := HL.out; omega)).mono ?_
      rintro e w1 ⟨rfl, hb1⟩
      have HB1 := Lib.hid hb1
      clear hb1
      go_wp2_with fail
      refine (hget_short A S v bs 4 4 rfl w1 ((HS.out.below HB1.out).more HB1.out.size) (HE.out.to HB1.out HB1.out.size) h2 HL.out (by have := HL8.out; omega)).mono ?_
      rintro e w2 ⟨rfl, hb2⟩
      have HB2 := Lib.hid (HB1.out.trans (hb2.mono HB1.out.size))
      clear hb2
      go_wp2
      refine bodyPost_ret (results_tmp4 rfl _ _ _) rfl ?_
      exact headPost_err he.out (by omega) HB2.out
    · have HL8 := Lib.hid hl8
      obtain ⟨b0, b1⟩ := leV_bd bs 4
      obtain ⟨c0, c1⟩ := leV_bd bs 0
      have hE' : headE bs = if leV bs 4 / 65536 < 8 ∨ leV bs 4 / 65536 % 4 ≠ 0 then 3 else if 4096 < leV bs 4 / 65536 then 4 else 0 := by unfold headE; rw [if_neg (by omega)]
      have hok : ∀ w', headE bs = 0 → Below w.heap.size w w' → HeadPost A bs w (.returned (.tuple #[.int .i64 (leV bs 0), .int .i64 (leV bs 4 % 65536), .int .i64 (leV bs 4 / 65536), .nilIface])) w' := fun w' a b => headPost_ok a b
      obtain ⟨x, hx⟩ : ∃ x, leV bs 0 = x := ⟨_, rfl⟩
      obtain ⟨y, hy⟩ : ∃ x, leV bs 4 = x := ⟨_, rfl⟩
      rw [hy] at b0 b1 hE' hok
      rw [hx] at c0 c1 hok
      have HOK := Lib.hid hok
      have HX := Lib.hid hx
      have HY := Lib.hid hy
      have c3 : Hid (∀ w1, Below w.heap.size w w1 → w1.cell? ⟨1, 0, none⟩ = some (.iface 121 (.pointer (some (A 3))))) := fun w1 hb => (HE.out.to hb hb.size).var h3
      have c4 : Hid (∀ w1, Below w.heap.size w w1 → w1.cell? ⟨2, 0, none⟩ = some (.iface 121 (.pointer (some (A 4))))) := fun w1 hb => (HE.out.to hb hb.size).var h4
      clear hl hl8 hx hy hok
      have hca : y / 65536 < 8 ∨ (8 ≤ y / 65536 ∧ y / 65536 % 4 ≠ 0) ∨ (8 ≤ y / 65536 ∧ y / 65536 % 4 = 0 ∧ 4096 < y / 65536) ∨ (8 ≤ y / 65536 ∧ y / 65536 % 4 = 0 ∧ y / 65536 ≤ 4096) := by omega
      rcases hca with h5 | ⟨h5, h6⟩ | ⟨h5, h6, h7⟩ | ⟨h5, h6, h7⟩
      · have he : Hid (headE bs = 3) := by show _ = _; rw [hE', if_pos (by omega)]
        have d1 : decide (y / 65536 < 8) = true := by simpa using h5
        clear hE' h5
        go_enter Tryd.func17, Tryd.ntmps17
        go_wp2_with fail
        refine (hget_ok v bs 0 0 rfl x HX.out w HS.out (by have := HL8.out; omega)).mono ?_
        rintro e w1 ⟨rfl, hb1⟩
        have HB1 := Lib.hid hb1
        clear hb1
        go_wp2_with fail
        refine (hget_ok v bs 4 4 rfl y HY.out w1 ((HS.out.below HB1.out).more HB1.out.size) (by have := HL8.out; omega)).mono ?_
        rintro e w2 ⟨rfl, hb2⟩
        have HB2 := Lib.hid (HB1.out.trans (hb2.mono HB1.out.size))
        have c3' := c3.out w2 HB2.out
        clear hb2
        go_wp2
        go_quiet (fail)
        all_goals (try go_wp2)
        all_goals refine bodyPost_ret (results_tmp4 rfl _ _ _) rfl ?_
        all_goals exact headPost_err he.out (by omega) (below_drewN HB2.out _)
      · have he : Hid (headE bs = 3) := by show _ = _; rw [hE', if_pos (by omega)]
        have d1 : decide (y / 65536 < 8) = false := by simpa using h5
        have d2 : (y / 65536 % 4 != 0) = true := by simpa using h6
        clear hE' h5 h6
        go_enter Tryd.func17, Tryd.ntmps17
        go_wp2_with fail
        refine (hget_ok v bs 0 0 rfl x HX.out w HS.out (by have := HL8.out; omega)).mono ?_
        rintro e w1 ⟨rfl, hb1⟩
        have HB1 := Lib.hid hb1
        clear hb1
        go_wp2_with fail
        refine (hget_ok v bs 4 4 rfl y HY.out w1 ((HS.out.below HB1.out).more HB1.out.size) (by have := HL8.out; omega)).mono ?_
        rintro e w2 ⟨rfl, hb2⟩
        have HB2 := Lib.hid (HB1.out.trans (hb2.mono HB1.out.size))
        have c3' := c3.out w2 HB2.out
        clear hb2
        go_wp2
        go_quiet (fail)
        all_goals (try go_wp2)
        all_goals refine bodyPost_ret (results_tmp4 rfl _ _ _) rfl ?_
        all_goals exact headPost_err he.out (by omega) (below_drewN HB2.out _)
      · have he : Hid (headE bs = 4) := by show _ = _; rw [hE', if_neg (by omega), if_pos h7]
        have d1 : decide (y / 65536 < 8) = false := by simpa using h5
        have d2 : (y / 65536 % 4 != 0) = false := by simpa using h6
        have d3 : decide (4096 < y / 65536) = true := by simpa using h7
        clear hE' h5 h6 h7
        go_enter Tryd.func17, Tryd.ntmps17
        go_wp2_with fail
        refine (hget_ok v bs 0 0 rfl x HX.out w HS.out (by have := HL8.out; omega)).mono ?_
        rintro e w1 ⟨rfl, hb1⟩
        have HB1 := Lib.hid hb1
        clear hb1
        go_wp2_with fail
        refine (hget_ok v bs 4 4 rfl y HY.out w1 ((HS.out.below HB1.out).more HB1.out.size) (by have := HL8.out; omega)).mono ?_
        rintro e w2 ⟨rfl, hb2⟩
        have HB2 := Lib.hid (HB1.out.trans (hb2.mono HB1.out.size))
        have c4' := c4.out w2 HB2.out
        clear hb2
        go_wp2
        go_quiet (fail)
        all_goals (try go_wp2)
        all_goals refine bodyPost_ret (results_tmp4 rfl _ _ _) rfl ?_
        all_goals exact headPost_err he.out (by omega) (below_drewN HB2.out _)
      · have he : Hid (headE bs = 0) := by show _ = _; rw [hE', if_neg (by omega), if_neg (by omega)]
        have d1 : decide (y / 65536 < 8) = false := by simpa using h5
        have d2 : (y / 65536 % 4 != 0) = false := by simpa using h6
        have d3 : decide (4096 < y / 65536) = false := by simpa using h7
        clear hE' h5 h6 h7
        go_enter Tryd.func17, Tryd.ntmps17
        go_wp2_with fail
        refine (hget_ok v bs 0 0 rfl x HX.out w HS.out (by have := HL8.out; omega)).mono ?_
        rintro e w1 ⟨rfl, hb1⟩
        have HB1 := Lib.hid hb1
        clear hb1
        go_wp2_with fail
        refine (hget_ok v bs 4 4 rfl y HY.out w1 ((HS.out.below HB1.out).more HB1.out.size) (by have := HL8.out; omega)).mono ?_
        rintro e w2 ⟨rfl, hb2⟩
        have HB2 := Lib.hid (HB1.out.trans (hb2.mono HB1.out.size))
        clear hb2
        go_wp2
        refine bodyPost_ret (results_tmp4 rfl _ _ _) rfl ?_
        exact HOK.out _ he.out HB2.out
set_option maxHeartbeats 1600000 in
theorem rhead_any (v : Value) (bs : List UInt8) (w : World) (h : Sl w w.heap.size v (bv bs)) :
    Calls Tryd.prog 27 #[v] w (RHeadPost bs w) := by
  have HS := Lib.hid h
  obtain ⟨_, Ad, c, rfl, hc, hm, _, _⟩ := h
  rw [bv_length] at hc HS ⊢
  obtain ⟨n, hn⟩ : ∃ n, n = bs.length := ⟨_, rfl⟩
  rw [← hn] at hc HS ⊢
  have HN := Lib.hid hn
  unfold maxLen at hm
  rcases Nat.lt_or_ge n 8 with hl | hl
  · have he : Hid (headE bs = 2) := by show _ = _; unfold headE; rw [if_pos (by omega)]
    have d : decide ((n : Int) < 8) = true := by simp; omega
    clear hl hn
    go_enter Tryd.func27, Tryd.ntmps27
    go_wp2
    refine bodyPost_ret (results_tmp4 rfl _ _ _) rfl ?_
    exact rheadPost_err (k := 2) he.out (by omega) (Below.refl _ _)
  · have HL8 := Lib.hid hl
    have d : decide ((n : Int) < 8) = false := by simp; omega
    obtain ⟨b0, b1⟩ := leV_bd bs 4
    obtain ⟨c0, c1⟩ := leV_bd bs 0
    have hE' : headE bs = if leV bs 4 / 65536 < 8 ∨ leV bs 4 / 65536 % 4 ≠ 0 then 3 else if 4096 < leV bs 4 / 65536 then 4 else 0 := by unfold headE; rw [if_neg (by omega)]
    have hok : ∀ w', headE bs = 0 → Below w.heap.size w w' → RHeadPost bs w (.returned (.tuple #[.int .i64 (leV bs 0), .int .i64 (leV bs 4 % 65536), .int .i64 (leV bs 4 / 65536), .int .i64 0])) w' := fun w' a b => rheadPost_ok a b
    obtain ⟨x, hx⟩ : ∃ x, leV bs 0 = x := ⟨_, rfl⟩
    obtain ⟨y, hy⟩ : ∃ x, leV bs 4 = x := ⟨_, rfl⟩
    rw [hy] at b0 b1 hE' hok
    rw [hx] at c0 c1 hok
    have HOK := Lib.hid hok
    have HX := Lib.hid hx
    have HY := Lib.hid hy
    clear hl hx hy hok hn
    have hca : y / 65536 < 8 ∨ (8 ≤ y / 65536 ∧ y / 65536 % 4 ≠ 0) ∨ (8 ≤ y / 65536 ∧ y / 65536 % 4 = 0 ∧ 4096 < y / 65536) ∨ (8 ≤ y / 65536 ∧ y / 65536 % 4 = 0 ∧ y / 65536 ≤ 4096) := by omega
    rcases hca with h5 | ⟨h5, h6⟩ | ⟨h5, h6, h7⟩ | ⟨h5, h6, h7⟩
    · have he : Hid (headE bs = 3) := by show _ = _; rw [hE', if_pos (by omega)]
      have d1 : decide (y / 65536 < 8) = true := by simpa using h5
      clear hE' h5
      go_enter Tryd.func27, Tryd.ntmps27
      go_wp2_with fail
      refine (hrget_ok _ bs 0 0 rfl x HX.out w HS.out (by have := HL8.out; have := HN.out; omega)).mono ?_
      rintro e w1 ⟨rfl, hb1⟩
      have HB1 := Lib.hid hb1
      clear hb1
      go_wp2_with fail
      refine (hrget_ok _ bs 4 4 rfl y HY.out w1 ((HS.out.below HB1.out).more HB1.out.size) (by have := HL8.out; have := HN.out; omega)).mono ?_
      rintro e w2 ⟨rfl, hb2⟩
      have HB2 := Lib.hid (HB1.out.trans (hb2.mono HB1.out.size))
      clear hb2
      go_wp2
      refine bodyPost_ret (results_tmp4 rfl _ _ _) rfl ?_
      exact rheadPost_err (k := 3) he.out (by omega) HB2.out
    · have he : Hid (headE bs = 3) := by show _ = _; rw [hE', if_pos (by omega)]
      have d1 : decide (y / 65536 < 8) = false := by simpa using h5
      have d2 : (y / 65536 % 4 != 0) = true := by simpa using h6
      clear hE' h5 h6
      go_enter Tryd.func27, Tryd.ntmps27
      go_wp2_with fail
      refine (hrget_ok _ bs 0 0 rfl x HX.out w HS.out (by have := HL8.out; have := HN.out; omega)).mono ?_
      rintro e w1 ⟨rfl, hb1⟩
      have HB1 := Lib.hid hb1
      clear hb1
      go_wp2_with fail
      refine (hrget_ok _ bs 4 4 rfl y HY.out w1 ((HS.out.below HB1.out).more HB1.out.size) (by have := HL8.out; have := HN.out; omega)).mono ?_
      rintro e w2 ⟨rfl, hb2⟩
      have HB2 := Lib.hid (HB1.out.trans (hb2.mono HB1.out.size))
      clear hb2
      go_wp2
      refine bodyPost_ret (results_tmp4 rfl _ _ _) rfl ?_
      exact rheadPost_err (k := 3) he.out (by omega) HB2.out
    · have he : Hid (headE bs = 4) := by show _ = _; rw [hE', if_neg (by omega), if_pos h7]
      have d1 : decide (y / 65536 < 8) = false := by simpa using h5
      have d2 : (y / 65536 % 4 != 0) = false := by simpa using h6
      have d3 : decide (4096 < y / 65536) = true := by simpa using h7
      clear hE' h5 h6 h7
      go_enter Tryd.func27, Tryd.ntmps27
      go_wp2_with fail
      refine (hrget_ok _ bs 0 0 rfl x HX.out w HS.out (by have := HL8.out; have := HN.out; omega)).mono ?_
      rintro e w1 ⟨rfl, hb1⟩
      have HB1 := Lib.hid hb1
      clear hb1
      go_wp2_with fail
      refine (hrget_ok _ bs 4 4 rfl y HY.out w1 ((HS.out.below HB1.out).more HB1.out.size) (by have := HL8.out; have := HN.out; omega)).mono ?_
      rintro e w2 ⟨rfl, hb2⟩
      have HB2 := Lib.hid (HB1.out.trans (hb2.mono HB1.out.size))
      clear hb2
      go_wp2
      refine bodyPost_ret (results_tmp4 rfl _ _ _) rfl ?_
      exact rheadPost_err (k := 4) he.out (by omega) HB2.out
    · have he : Hid (headE bs = 0) := by show _ = _; rw [hE', if_neg (by omega), if_neg (by omega)]
      have d1 : decide (y / 65536 < 8) = false := by simpa using h5
      have d2 : (y / 65536 % 4 != 0) = false := by simpa using h6
      have d3 : decide (4096 < y / 65536) = false := by simpa using h7
      have ha := and_65535 y b0 b1
      clear hE' h5 h6 h7
      go_enter Tryd.func27, Tryd.ntmps27
      go_wp2_with fail
      refine (hrget_ok _ bs 0 0 rfl x HX.out w HS.out (by have := HL8.out; have := HN.out; omega)).mono ?_
      rintro e w1 ⟨rfl, hb1⟩
      have HB1 := Lib.hid hb1
      clear hb1
      go_wp2_with fail
      refine (hrget_ok _ bs 4 4 rfl y HY.out w1 ((HS.out.below HB1.out).more HB1.out.size) (by have := HL8.out; have := HN.out; omega)).mono ?_
      rintro e w2 ⟨rfl, hb2⟩
      have HB2 := Lib.hid (HB1.out.trans (hb2.mono HB1.out.size))
      clear hb2
      go_wp2
      refine bodyPost_ret (results_tmp4 rfl _ _ _) rfl ?_
      exact HOK.out _ he.out HB2.out
end Go.Proofs.YtihbgkighckiiaaDoor
