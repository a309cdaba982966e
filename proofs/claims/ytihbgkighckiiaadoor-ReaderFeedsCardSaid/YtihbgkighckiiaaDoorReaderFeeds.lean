/- The walk over tableaulaw05.ReaderFeeds. -/
import Derived.Test.YtihbgkighckiiaaDoorCutsL
import Derived.Test.YtihbgkighckiiaaDoorRFeed
import Derived.Test.YtihbgkighckiiaaDoorRAwake
import Derived.Test.YtihbgkighckiiaaDoorOpen3
import Derived.Test.YtihbgkighckiiaaDoorLater
namespace Go.Proofs.YtihbgkighckiiaaDoor
open Go.RowKit
set_option maxRecDepth 100000

theorem later_drewN {P : Program} {f : FuncId} {args : Array Value} {w0 : World} {x : Later w0} {v : Value} (h : Calls P f args x.w fun e w' => e = .returned v ∧ ∃ k, w' = x.w.drewN k) : Calls P f args x.w fun e w'' => e = .returned v ∧ ∃ y : Later w0, w'' = y.w :=
  h.mono fun _ _ ⟨he, k, hb⟩ => ⟨he, ⟨x.w.drewN k, below_drewN x.h k⟩, hb⟩
theorem RIs.blk' {A : Nat → Addr} {w : World} {g k : Nat} {left : List UInt8} (h : RIs A w g left k) : ∃ Ad c, Blk w g 97 #[.slice Ad left.length c, errV A k] := by
  obtain ⟨v, h1, ⟨_, Ad, c, rfl, _⟩, _⟩ := h
  rw [bv_length] at h1
  exact ⟨Ad, c, h1⟩
/-- A reader beside another block that is written. -/
def RIa (A : Nat → Addr) (w : World) (g h : Nat) (left : List UInt8) (k : Nat) : Prop := ∃ v, Blk w g 97 #[v, errV A k] ∧ Sl w w.heap.size v (bv left) ∧ Off v g ∧ (left = [] ∨ Off v h)
def RRa (w : World) (h g : Nat) (left : List UInt8) (k : Nat) : Prop := ∃ v, Blk w h 68 #[v, .int .i64 k] ∧ Sl w w.heap.size v (bv left) ∧ Off v h ∧ (left = [] ∨ Off v g)
theorem sl_nil_any {w w' : World} {v : Value} {B B' : Nat} (h : Sl w B v (bv [])) : Sl w' B' v (bv []) := by
  obtain ⟨hl, A, c, hv, hc, hm, h0, _⟩ := h
  exact ⟨hl, A, c, hv, hc, hm, h0, fun h => absurd h (Nat.lt_irrefl _)⟩
section
variable {A : Nat → Addr} {w w' : World} {g h k z : Nat} {left : List UInt8}
theorem RIa.is (hr : RIa A w g h left k) : RIs A w g left k := by obtain ⟨v, h1, h2, h3, _⟩ := hr; exact ⟨v, h1, h2, h3⟩
theorem RRa.is (hr : RRa w h g left k) : RRs w h left k := by obtain ⟨v, h1, h2, h3, _⟩ := hr; exact ⟨v, h1, h2, h3⟩
theorem RIa.only (hr : RIa A w g h left k) (hg : w.grownBy w' (some h)) (hne : g ≠ h) : RIa A w' g h left k := by
  obtain ⟨v, h1, h2, h3, h4⟩ := hr
  refine ⟨v, h1.grown hg (by simpa using hne), ?_, h3, h4⟩
  rcases h4 with rfl | h4
  · exact sl_nil_any h2
  · exact (h2.only h4 hg (Nat.le_refl _)).more hg.size
theorem RRa.only (hr : RRa w h g left k) (hg : w.grownBy w' (some g)) (hne : h ≠ g) : RRa w' h g left k := by
  obtain ⟨v, h1, h2, h3, h4⟩ := hr
  refine ⟨v, h1.grown hg (by simpa using hne), ?_, h3, h4⟩
  rcases h4 with rfl | h4
  · exact sl_nil_any h2
  · exact (h2.only h4 hg (Nat.le_refl _)).more hg.size
theorem RIa.below (hr : RIa A w g h left k) (hb : Below w.heap.size w w') : RIa A w' g h left k := by
  obtain ⟨v, h1, h2, h3, h4⟩ := hr
  exact ⟨v, h1.below hb h1.lt, (h2.below hb).more hb.size, h3, h4⟩
theorem RRa.below (hr : RRa w h g left k) (hb : Below w.heap.size w w') : RRa w' h g left k := by
  obtain ⟨v, h1, h2, h3, h4⟩ := hr
  exact ⟨v, h1.below hb h1.lt, (h2.below hb).more hb.size, h3, h4⟩
theorem RIa.of {b : List UInt8} (hl : k ≠ 0 → left = []) (h1 : RIs A w' g (fed left k b).2.1 (fed left k b).2.2) (h2 : k = 0 → RIz A w' g (fed left k b).2.1 (fed left k b).2.2 w.heap.size) (hg : g < w.heap.size) (hh : h < w.heap.size) : RIa A w' g h (fed left k b).2.1 (fed left k b).2.2 := by
  by_cases hk : k = 0
  · obtain ⟨v, k1, k2, k3⟩ := h2 hk
    exact ⟨v, k1, k2, k3 g hg, .inr (k3 h hh)⟩
  · obtain ⟨v, k1, k2, k3⟩ := h1
    refine ⟨v, k1, k2, k3, .inl ?_⟩
    unfold fed; rw [if_pos hk]; exact hl hk
theorem RRa.of {b : List UInt8} (hl : k ≠ 0 → left = []) (h1 : RRs w' h (fed left k b).2.1 (fed left k b).2.2) (h2 : k = 0 → RRz w' h (fed left k b).2.1 (fed left k b).2.2 w.heap.size) (hg : g < w.heap.size) (hh : h < w.heap.size) : RRa w' h g (fed left k b).2.1 (fed left k b).2.2 := by
  by_cases hk : k = 0
  · obtain ⟨v, k1, k2, k3⟩ := h2 hk
    exact ⟨v, k1, k2, k3 h hh, .inr (k3 g hg)⟩
  · obtain ⟨v, k1, k2, k3⟩ := h1
    refine ⟨v, k1, k2, k3, .inl ?_⟩
    unfold fed; rw [if_pos hk]; exact hl hk
end
/-- What may be left, and be wrong. -/
def FedOk (left : List UInt8) (k : Nat) : Prop := left.length ≤ 4096 ∧ k ≤ 4 ∧ (k ≠ 0 → left = [])
theorem fed_ok {left b : List UInt8} {k : Nat} (h : FedOk left k) : FedOk (fed left k b).2.1 (fed left k b).2.2 := by
  unfold fed
  split
  · exact h
  · exact ⟨feedL_left _ _ (Nat.le_refl _), feedL_err _ _ (Nat.le_refl _), feedL_wrong _ _ (Nat.le_refl _)⟩
def FeedsRel (A : Nat → Addr) (w : World) (g h : Nat) (a : Value) (wr : World) : Prop :=
  ∃ (i : Nat) (left : List UInt8) (k : Nat), i ≤ 40 ∧ a = .int .i64 i ∧ FedOk left k ∧ RIa A wr g h left k ∧ RRa wr h g left k ∧ Below w.heap.size w wr

set_option maxHeartbeats 6400000 in
theorem rfeeds_walk (A : Nat → Addr) (lv : Value) (x : Nat × (Nat → Value) × (Nat → List UInt8)) (w : World) (hE : Errs w w.heap.size allErrs A)
    (hL : SlB w w.heap.size lv x.1 x.2.1 x.2.2 ∧ ∀ i, i < x.1 → (x.2.2 i).length ≤ 140737488351232) :
    Calls Tryd.prog 9 #[lv] w fun e w' => e = .returned (.bool true) ∧ Below w.heap.size w w' := by
  obtain ⟨ln, V, ls⟩ := x
  obtain ⟨hL, hLl⟩ := hL
  have HE := Lib.hid hE
  have H2 : (2 : Nat) ∈ allErrs := mem_all 2 (by omega) (by omega)
  have H3 : (3 : Nat) ∈ allErrs := mem_all 3 (by omega) (by omega)
  have H4 : (4 : Nat) ∈ allErrs := mem_all 4 (by omega) (by omega)
  obtain ⟨⟨LA, lc, hlv, hlc, hlm, _, hLx⟩, hLs⟩ := hL
  simp only at hlv hlc hLx hLs hLl
  subst hlv
  have HLX := Lib.hid hLx
  have HLS := Lib.hid hLs
  have HLL := Lib.hid hLl
  unfold maxLen at hlm
  clear hE hLx hLs hLl
  go_enter Tryd.func9, Tryd.ntmps9
  go_wp2_with fail
  refine (new_any A w).mono ?_
  rintro e w1 ⟨rfl, hr1, hb1⟩
  obtain ⟨g, hg⟩ : ∃ g, g = w.heap.size := ⟨_, rfl⟩
  rw [← hg] at hr1 ⊢
  have HG := Lib.hid hg
  have HR1 := Lib.hid hr1
  have HB1 := Lib.hid hb1
  clear hg hr1 hb1
  go_wp2_with fail
  obtain ⟨h, hh⟩ : ∃ h, h = w1.heap.size := ⟨_, rfl⟩
  have hb2 : Below w1.heap.size w1 (w1.alloc (.cells #[.slice none 0 0, .int .i64 0] 68)) := (Below.refl _ _).alloc (Nat.le_refl _) _
  have hk2 : Blk (w1.alloc (.cells #[.slice none 0 0, .int .i64 0] 68)) w1.heap.size 68 #[.slice none 0 0, .int .i64 0] := Blk.new _ _ _
  rw [← hh] at hk2 ⊢
  have HGH : Hid (g < h) := by
    obtain ⟨v, k1, _⟩ := HR1.out
    show g < h
    rw [hh]; exact k1.lt
  have HK2 : Hid (Blk (w1.alloc (.cells #[.slice none 0 0, .int .i64 0] 68)) h 68 #[.slice none 0 0, .int .i64 0]) := hk2
  have HB2 := Lib.hid (HB1.out.trans (hb2.mono HB1.out.size))
  have HR2 := Lib.hid (HR1.out.below hb2)
  clear hh hb2 hk2
  generalize w1.alloc (.cells #[.slice none 0 0, .int .i64 0] 68) = w2 at HK2 HB2 HR2 ⊢
  go_loopw [5] (FeedsRel A w g h) (fun a _ => 40 - (intOf a).toNat)
  case atStart =>
    obtain ⟨v, k1, k2, k3⟩ := HR2.out
    exact ⟨0, [], 0, by omega, rfl, ⟨by simp, by omega, fun _ => rfl⟩, ⟨v, k1, k2, k3, .inl rfl⟩, ⟨_, HK2.out, Sl.nil_ _ _, Off.nil_, .inl rfl⟩, HB2.out⟩
  case round =>
    obtain ⟨i, left, k, hi, rfl, hok, hra, hrr, hb⟩ := hrel
    have HOK := Lib.hid hok
    have HRA := Lib.hid hra
    have HRR := Lib.hid hrr
    have HB := Lib.hid hb
    clear hok hra hrr hb
    by_cases hin : i < ln ∧ i < 40
    · obtain ⟨hin1, hin2⟩ := hin
      obtain ⟨b0, off, rfl, hBl, hx⟩ := HLX.out (by omega)
      have hx0 := hx i 0 hin1 (by omega)
      rw [show off + (i * 1 + 0) = off + i by omega] at hx0
      have hv := HLS.out i hin1
      have hvl := HLL.out i hin1
      obtain ⟨vi, hvi⟩ : ∃ vi, vi = V i := ⟨_, rfl⟩
      obtain ⟨bs, hbs⟩ : ∃ bs, bs = ls i := ⟨_, rfl⟩
      rw [← hvi] at hx0 hv
      rw [← hbs] at hv hvl
      have HV := Lib.hid (fun wr (hb : Below w.heap.size w wr) => ((Sl.below hv hb).more hb.size : Sl wr wr.heap.size vi (bv bs)))
      have HC := Lib.hid (fun wr (hb : Below w.heap.size w wr) => (hb.cell (p := ⟨b0, off + i, none⟩) hBl).trans hx0)
      have g0 := HC.out wr HB.out
      obtain ⟨_, Av, cv, rfl, hcv, hmv, _⟩ := hv
      rw [bv_length] at hcv HV HC hx0 g0
      obtain ⟨m, hm⟩ : ∃ m, m = bs.length := ⟨_, rfl⟩
      rw [← hm] at hcv hvl HV HC hx0 g0
      have HM := Lib.hid hm
      clear hx hvi hbs hm hx0
      by_cases hbig : 9000 < m
      · have d1 : decide (9000 < (m : Int)) = true := by simp; omega
        go_wp2_with fail
        refine (w5awake_any A allErrs H2 H3 H4 wr (HE.out.to HB.out HB.out.size)).mono ?_
        rintro e w4 ⟨rfl, hb4⟩
        go_wp2
        go_ret
        exact ⟨rfl, HB.out.trans (hb4.mono HB.out.size)⟩
      · have d1 : decide (9000 < (m : Int)) = false := by simp; omega
        have hm9 : m ≤ 9000 := by omega
        clear hbig
        go_wp2_with fail
        refine (bytes_any _ bs wr (HV.out wr HB.out) (by rw [← HM.out]; omega)).mono ?_
        rintro e w4 ⟨v4, rfl, hown, hb4⟩
        have HRA4 := Lib.hid (HRA.out.below hb4)
        have HRR4 := Lib.hid (HRR.out.below hb4)
        have HB4 := Lib.hid (HB.out.trans (hb4.mono HB.out.size))
        have HS4 := Lib.hid (Sl.of_own hown)
        clear hown hb4
        go_wp2_with fail
        refine (feed_any' A allErrs H2 H3 H4 g left k _ bs w4 (HE.out.to HB4.out HB4.out.size) HRA4.out.is HS4.out (fun _ => by have := HOK.out.1; rw [← HM.out]; omega)).mono ?_
        rintro e w5 ⟨⟨va, rfl, hown5, hr5, hg5⟩, hz5⟩
        have hlt4 : g < w4.heap.size ∧ h < w4.heap.size := ⟨by obtain ⟨v, k1, _⟩ := HRA4.out; exact k1.lt, by obtain ⟨v, k1, _⟩ := HRR4.out; exact k1.lt⟩
        have HRA5 := Lib.hid (RIa.of (h := h) HOK.out.2.2 hr5 hz5 hlt4.1 hlt4.2)
        have HRR5 := Lib.hid (HRR4.out.only hg5 (by have := HGH.out; omega))
        have HB5 := Lib.hid (below_of_only HB4.out hg5 HB4.out.size (by rw [HG.out]; exact Nat.le_refl _))
        have HO5 := Lib.hid hown5
        have HLT := Lib.hid hlt4
        have g5 := HC.out w5 HB5.out
        have HZ5 : Hid (w4.heap.size ≤ w5.heap.size) := hg5.size
        obtain ⟨A5, c5, rfl⟩ := own_slice' hown5
        clear hown5 hr5 hg5 hz5 hlt4 g0
        go_wp2_with fail
        refine (rfeed_any' h left k _ bs w5 HRR5.out.is (HV.out w5 HB5.out) (fun _ => by have := HOK.out.1; rw [← HM.out]; omega)).mono ?_
        rintro e w6 ⟨⟨vb, rfl, hown6, hr6, hg6⟩, hz6⟩
        have HRR6 := Lib.hid (RRa.of (g := g) HOK.out.2.2 hr6 hz6 (Nat.lt_of_lt_of_le HLT.out.1 HZ5.out) (Nat.lt_of_lt_of_le HLT.out.2 HZ5.out))
        have HRA6 := Lib.hid (HRA5.out.only hg6 (by have := HGH.out; omega))
        have HB6 := Lib.hid (below_of_only HB5.out hg6 HB5.out.size (by have := HGH.out; have := HG.out; omega))
        have HO6 := Lib.hid hown6
        have HO56 := Lib.hid (HO5.out.kept hg6 (own_ne HO5.out HLT.out.2))
        obtain ⟨A6, c6, rfl⟩ := own_slice' hown6
        have HOK2 := Lib.hid (fed_ok (b := bs) HOK.out)
        obtain ⟨M, lf, k2, hF⟩ : ∃ a b c, fed left k bs = (a, b, c) := ⟨_, _, _, rfl⟩
        rw [hF] at HRR6 HRA6 HO6 HO56 HOK2 ⊢
        simp only at HRR6 HRA6 HO6 HO56 HOK2 ⊢
        clear hown6 hr6 hg6 hz6 hF g5 HC HV HS4 HRA4 HRR4 HRA5 HRR5 HO5
        obtain ⟨Ar, cr, hkr⟩ := HRA6.out.is.blk'
        have hk6 : ∃ Ah ch, Blk w6 h 68 #[.slice Ah lf.length ch, .int .i64 k2] := by
          obtain ⟨v, k1, ⟨_, Ah, ch, rfl, _⟩, _⟩ := HRR6.out
          rw [bv_length] at k1
          exact ⟨Ah, ch, k1⟩
        obtain ⟨Ah, ch, hkh⟩ := hk6
        have MK : Hid (∀ x : Later w6, Calls Tryd.prog 18 #[errV A k2] x.w fun e w' => e = .returned (.int .i64 k2) ∧ Below x.w.heap.size x.w w') := fun x =>
          kind_any A k2 (by have := HOK2.out.2.1; omega) x.w (HE.out.to (x.after HB6.out HB6.out.size) (x.after HB6.out HB6.out.size).size)
        have ML : Hid (∀ x : Later w6, Calls Tryd.prog 34 #[.pointer (some ⟨g, 0, none⟩)] x.w fun e w' => e = .returned (.int .i64 lf.length) ∧ x.w = w') := fun x =>
          left_any A g lf k2 x.w (HRA6.out.is.below x.h)
        have MS : Hid (∀ x : Later w6, Calls Tryd.prog 35 #[.slice A5 M.length c5, .slice A6 M.length c6] x.w fun e w' => e = .returned (.bool true) ∧ ∃ q, w' = x.w.drewN q) := fun x =>
          same_any _ _ M x.w ((SlN.below (SlN.of_own HO56.out) x.h).more x.h.size) ((SlN.below (SlN.of_own HO6.out) x.h).more x.h.size)
        have CH : ∀ x : Later w6, x.w.cell? ⟨h, 0, none⟩ = some (.slice Ah lf.length ch) := fun x => x.cell (hkh.cell 0)
        have e1 : ((k2 : Int) != (k2 : Int)) = false := by simp
        clear hkr hkh
        go_wp2_with fail
        refine wp_region_later_lit (by kernel_rfl) (by kernel_rfl) ?_
        repeat (any_goals (go_big_quiet_step (first
          | with_reducible exact later_call (MK.out _)
          | with_reducible exact later_same (ML.out _)
          | with_reducible exact later_drewN (MS.out _))))
        refine wpQuiet_nil ?_
        intro _ hw'
        obtain ⟨x, hw''⟩ := hw'
        subst hw''
        clear CH
        go_wp2_with fail
        go_roundw
        case rel => exact ⟨i + 1, lf, k2, by omega, by go_num, HOK2.out, HRA6.out.below x.h, HRR6.out.below x.h, x.after HB6.out HB6.out.size⟩
        case measure => simp [intOf]; omega
    · have hin' : ln ≤ i ∨ (i < ln ∧ 40 ≤ i) := by omega
      clear hin
      rcases hin' with hx | ⟨hx, hx2⟩
      all_goals
        go_wp2_with fail
        refine (w5awake_any A allErrs H2 H3 H4 wr (HE.out.to HB.out HB.out.size)).mono ?_
        rintro e w4 ⟨rfl, hb4⟩
        go_wp2
        go_ret
        exact ⟨rfl, HB.out.trans (hb4.mono HB.out.size)⟩
end Go.Proofs.YtihbgkighckiiaaDoor
