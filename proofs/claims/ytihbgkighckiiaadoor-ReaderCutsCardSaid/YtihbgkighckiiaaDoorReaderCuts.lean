/- The walk over tableaulaw05.ReaderCuts. -/
import Derived.Test.YtihbgkighckiiaaDoorCutsL
import Derived.Test.YtihbgkighckiiaaDoorBytes
import Derived.Test.YtihbgkighckiiaaDoorRAwake
import Derived.Test.YtihbgkighckiiaaDoorRawApp
import Derived.Test.YtihbgkighckiiaaDoorPl
import Derived.Deep.CutBlock
import Derived.Deep.CutRange
namespace Go.Proofs.YtihbgkighckiiaaDoor
open Go.RowKit
set_option maxRecDepth 100000

theorem RIz.app {A : Nat → Addr} {w0 w1 w2 : World} {g k z base n : Nat} {left : List UInt8} {v : Value} {xs : List Value} (h : RIz A w1 g left k z) (ho : w0.ownsRow base 50 3 v n xs) (hz : w0.heap.size ≤ z) (hg : g < base) (hgz : g < z) (hgr : w1.grownBy w2 v.ownBlock) : RIs A w2 g left k := by
  obtain ⟨v', h1, h2, h3⟩ := h
  rcases ho.2 with ⟨rfl, _⟩ | ⟨b2, cap, cur, rfl, hb3, hcur, _⟩
  · have hb : Below w1.heap.size w1 w2 := (Below.refl _ w1).grown hgr (Nat.le_refl _) (fun b hb => by simp [Value.ownBlock] at hb)
    exact ⟨v', h1.below hb h1.lt, (h2.below hb).more hb.size, h3 g hgz⟩
  · have hlt := (Array.getElem?_eq_some_iff.1 hcur).1
    have hgr' : w1.grownBy w2 (some b2) := hgr
    exact ⟨v', h1.grown hgr' (by simp; omega), (h2.only (h3 b2 (by omega)) hgr' (Nat.le_refl _)).more hgr'.size, h3 g hgz⟩
theorem left_blk (g n c : Nat) (Ad : Option Addr) (e : Value) (w : World) (h : Blk w g 97 #[.slice Ad n c, e]) : Calls Tryd.prog 34 #[.pointer (some ⟨g, 0, none⟩)] w fun e w' =>
    e = .returned (.int .i64 n) ∧ w = w' := by
  have gc0 : w.cell? ⟨g, 0, none⟩ = some (.slice Ad n c) := h.cell 0
  clear h
  go_enter Tryd.func34, Tryd.ntmps34
  go_wp2
  go_ret
  exact ⟨rfl, rfl⟩
theorem ris_lt {A : Nat → Addr} {w : World} {g k : Nat} {left : List UInt8} (h : RIs A w g left k) : g < w.heap.size := by
  obtain ⟨v, h1, _⟩ := h
  exact h1.lt
theorem RIs.blk {A : Nat → Addr} {w : World} {g k : Nat} {left : List UInt8} (h : RIs A w g left k) : ∃ Ad c, Blk w g 97 #[.slice Ad left.length c, errV A k] := by
  obtain ⟨v, h1, ⟨_, Ad, c, rfl, _⟩, _⟩ := h
  rw [bv_length] at h1
  exact ⟨Ad, c, h1⟩
theorem only_below {wB wc w2 : World} {row : Option Nat} (h : wB.grownBy wc row) (hb : Below wB.heap.size wc w2) : wB.grownBy w2 row :=
  ⟨hb.os.trans h.os, hb.tape.trans h.tape, hb.output.trans h.output, Nat.le_trans h.size hb.size, fun i hi hn => (hb.block i hi).trans (h.block i hi hn)⟩
/-- b[p:e], the place as the model has it. -/
theorem SlN.cut_ {w : World} {B m c p e : Nat} {b off : Nat} {xs : List Value} (h : SlN w B 1 (.slice (some ⟨b, off, none⟩) m c) m xs) (hp : p ≤ e) (he : e ≤ m) : SlN w B 1 (.slice (some ⟨b, off + p, none⟩) (e - p) (c - p)) (e - p) ((xs.take e).drop p) := by
  have h1 := (SlN.drop_ h (k := p) (by omega)).take_ (k := e - p) (by omega)
  rw [List.drop_take]
  exact h1
theorem SlN.cut0 {w : World} {B c : Nat} {A : Option Addr} (hc : c ≤ maxLen) (h : A = none → c = 0) : SlN w B 1 (.slice A 0 c) 0 [] := ⟨rfl, A, c, rfl, Nat.zero_le _, hc, h, fun h => absurd h (Nat.lt_irrefl _)⟩

def CutsRel (A : Nat → Addr) (wB : World) (sg : Nat) (bw : List UInt8) (m lc : Nat) (vl vf va vi : Value) (wr : World) : Prop :=
  ∃ (i p : Nat) (M : List RawD) (lf : List UInt8) (k : Nat), i ≤ lc + 1 ∧ i ≤ 60 ∧ p ≤ m ∧ ((i = lc + 1 ∨ i = 60) → p = m) ∧ feedL (bw.take p) = (M, lf, k) ∧ vi = .int .i64 i ∧ va = .int .i64 p ∧ vf = errV A k ∧
    wr.ownsRow wB.heap.size 50 3 vl M.length (rawCells M) ∧ RIs A wr sg lf k ∧ wB.grownBy wr (some sg)
def CutsFed (A : Nat → Addr) (wr : World) (sg : Nat) (lf : List UInt8) (k : Nat) (pc : List UInt8) (s14 s15 : Value) (wc : World) : Prop :=
  s15 = errV A (fed lf k pc).2.2 ∧ wc.ownsRow wr.heap.size 50 3 s14 (fed lf k pc).1.length (rawCells (fed lf k pc).1) ∧ RIs A wc sg (fed lf k pc).2.1 (fed lf k pc).2.2 ∧ wr.grownBy wc (some sg) ∧ (k = 0 → RIz A wc sg (fed lf k pc).2.1 (fed lf k pc).2.2 wr.heap.size)
theorem cuts_step {bw : List UInt8} {p e m : Nat} {M : List RawD} {lf : List UInt8} {k : Nat} (hm : m = bw.length) (h : feedL (bw.take p) = (M, lf, k)) (hp : p ≤ e) (he : e ≤ m) :
    feedL (bw.take e) = (M ++ (fed lf k ((bw.take e).drop p)).1, (fed lf k ((bw.take e).drop p)).2) ∧ lf.length ≤ p ∧ M.length * 8 ≤ p ∧ k ≤ 4 := by
  have h1 := fed_step (bw.take p) ((bw.take e).drop p)
  have h2 : bw.take p ++ (bw.take e).drop p = bw.take e := by
    have : bw.take p = (bw.take e).take p := by rw [List.take_take, Nat.min_eq_left hp]
    rw [this, List.take_append_drop]
  rw [h2, h] at h1
  have h3 := feedL_count _ (bw.take p) (Nat.le_refl _)
  have h4 := feedL_err _ (bw.take p) (Nat.le_refl _)
  rw [h] at h3 h4
  simp only [List.length_take] at h3
  exact ⟨h1, by omega, by omega, h4⟩

set_option maxHeartbeats 6400000 in
theorem rcuts_walk (A : Nat → Addr) (bvv : Value) (bw : List UInt8) (cv : Value) (zs : List Int) (w : World) (hE : Errs w w.heap.size allErrs A) (hb : Sl w w.heap.size bvv (bv bw) ∧ bw.length ≤ 140737488351232)
    (hc : Sl w w.heap.size cv (zs.map (Value.int .i64)) ∧ (∀ n ∈ zs, (Lit.int .i64 n).wf = true) ∧ zs.length * 8 ≤ 140737488351232) :
    Calls Tryd.prog 10 #[bvv, cv] w fun e w' => e = .returned (.bool true) ∧ Below w.heap.size w w' := by
  have HE := Lib.hid hE
  have H2 : (2 : Nat) ∈ allErrs := mem_all 2 (by omega) (by omega)
  have H3 : (3 : Nat) ∈ allErrs := mem_all 3 (by omega) (by omega)
  have H4 : (4 : Nat) ∈ allErrs := mem_all 4 (by omega) (by omega)
  obtain ⟨hb, hbl⟩ := hb
  obtain ⟨hc, hcw, hcl⟩ := hc
  obtain ⟨_, CA, cc, rfl, hcc, hcm, _, hcx⟩ := hc
  rw [List.length_map] at hcc hcx ⊢
  obtain ⟨lc, hlc⟩ : ∃ lc, lc = zs.length := ⟨_, rfl⟩
  rw [← hlc] at hcc hcx hcl ⊢
  have HLC := Lib.hid hlc
  have HCX := Lib.hid hcx
  have HCW := Lib.hid hcw
  have HBV := Lib.hid hb
  obtain ⟨_, BA, bc, rfl, hbc, hbm, hb0, hbx⟩ := hb
  rw [bv_length] at hbc hbx HBV ⊢
  obtain ⟨m, hm⟩ : ∃ m, m = bw.length := ⟨_, rfl⟩
  rw [← hm] at hbc hbx hbl HBV ⊢
  have HM := Lib.hid hm
  have HBX := Lib.hid hbx
  have HB0 := Lib.hid hb0
  have HBM := Lib.hid hbm
  unfold maxLen at hcm hbm
  clear hE hlc hcx hcw hm hbx hb0
  by_cases hbig : 3000 < m
  · go_enter Tryd.func10, Tryd.ntmps10
    go_wp2_with fail
    refine (w5awake_any A allErrs H2 H3 H4 w HE.out).mono ?_
    rintro e w1 ⟨rfl, hb1⟩
    go_wp2
    go_ret
    exact ⟨rfl, hb1⟩
  have hm3 : m ≤ 3000 := by omega
  have dbig : decide (3000 < (m : Int)) = false := by simp; omega
  clear hbig hbl
  go_enter Tryd.func10, Tryd.ntmps10
  go_wp2_with fail
  refine (new_any A w).mono ?_
  rintro e w1 ⟨rfl, hr1, hb1⟩
  obtain ⟨rg, hrg⟩ : ∃ rg, rg = w.heap.size := ⟨_, rfl⟩
  rw [← hrg] at hr1 ⊢
  have HRG := Lib.hid hrg
  have HR1 := Lib.hid hr1
  have HB1 := Lib.hid hb1
  clear hrg hr1 hb1
  go_wp2_with fail
  refine (new_any A w1).mono ?_
  rintro e w2 ⟨rfl, hr2, hb2⟩
  obtain ⟨sg, hsg⟩ : ∃ sg, sg = w1.heap.size := ⟨_, rfl⟩
  rw [← hsg] at hr2 ⊢
  have HSG := Lib.hid hsg
  have HS2 := Lib.hid hr2
  have HRS : Hid (rg < sg) := by show _ < _; rw [hsg]; exact ris_lt HR1.out
  have HR2 := Lib.hid (HR1.out.below hb2)
  have HB2 := Lib.hid (HB1.out.trans (hb2.mono HB1.out.size))
  have HV2 := Lib.hid ((SlN.below (show SlN w w.heap.size 1 (.slice BA m bc) m (bv bw) from by have := HBV.out; unfold Sl at this; rw [bv_length, ← HM.out] at this; exact this) (HB1.out.trans (hb2.mono HB1.out.size))).more HB2.out.size)
  clear hsg hr2 hb2
  go_wp2_with fail
  refine (bytes_any _ bw w2 HV2.out.toSl (by rw [← HM.out]; omega)).mono ?_
  rintro e w3 ⟨v3, rfl, hown, hb3⟩
  have HR3 := Lib.hid (HR2.out.below hb3)
  have HS3 := Lib.hid (HS2.out.below hb3)
  have HB3 := Lib.hid (HB2.out.trans (hb3.mono HB2.out.size))
  have HV3 := Lib.hid (Sl.of_own hown)
  have HZ3 : Hid (sg < w3.heap.size) := Nat.lt_of_lt_of_le (ris_lt HS2.out) hb3.size
  clear hown hb3
  go_wp2_with fail
  refine (feed_any A allErrs H2 H3 H4 rg [] 0 _ bw w3 (HE.out.to HB3.out HB3.out.size) HR3.out HV3.out (fun _ => by rw [← HM.out]; simp; omega)).mono ?_
  rintro e wB ⟨vW, rfl, hownW, hrW, hgW⟩
  have hfd : fed [] 0 bw = feedL bw := by unfold fed; rw [if_neg (by omega), List.nil_append]
  rw [hfd] at hownW hrW ⊢
  have hcnt := feedL_count _ bw (Nat.le_refl _)
  have herr := feedL_err _ bw (Nat.le_refl _)
  rw [← HM.out] at hcnt
  obtain ⟨MW, lW, kW, hFW⟩ : ∃ M l k, feedL bw = (M, l, k) := ⟨_, _, _, rfl⟩
  rw [hFW] at hownW hrW hcnt herr ⊢
  simp only at hownW hrW hcnt herr
  have HFW := Lib.hid hFW
  have HOW := Lib.hid hownW
  obtain ⟨LA, Lc, hLB⟩ := hrW.blk
  have HLB := Lib.hid hLB
  obtain ⟨qW, hqW⟩ : ∃ q, q = lW.length := ⟨_, rfl⟩
  rw [← hqW] at HLB hcnt
  have HQW := Lib.hid hqW
  have HBB := Lib.hid (below_of_only HB3.out hgW HB3.out.size (by rw [HRG.out]; exact Nat.le_refl _))
  have HSB : Hid (Blk wB sg 97 #[.slice none 0 0, .nilIface] ∨ True) := .inr trivial
  have HSg : Hid (RIs A wB sg [] 0) := by
    obtain ⟨v, k1, ⟨hl, Ad, c, hv, hc, hmx, h0, _⟩, k3⟩ := HS3.out
    exact ⟨v, k1.grown hgW (by simp; have := HRS.out; omega), ⟨hl, Ad, c, hv, hc, hmx, h0, fun h => absurd h (Nat.lt_irrefl _)⟩, k3⟩
  have HZB : Hid (sg < wB.heap.size) := Nat.lt_of_lt_of_le HZ3.out hgW.size
  have HOB : Hid (∀ wr, wB.grownBy wr (some sg) → wr.ownsRow w3.heap.size 50 3 vW MW.length (rawCells MW)) := fun wr hg => HOW.out.kept hg (own_ne HOW.out HZ3.out)
  obtain ⟨WA, Wc, rfl⟩ := own_slice' hownW
  have HKW := Lib.hid herr
  clear hfd hFW hownW hrW hLB hqW hgW herr HSB hcnt
  go_wp2_with fail
  go_loopw [9, 10, 11, 12] (CutsRel A wB sg bw m lc) (fun _ _ _ i _ => 60 - (intOf i).toNat)
  case atStart =>
    refine ⟨0, 0, [], [], 0, by omega, by omega, by omega, by omega, ?_, rfl, rfl, rfl, World.ownsRow_nil _ _ _ _, HSg.out, only_refl _ _⟩
    rw [List.take_zero]; exact feedL_short (by decide +kernel)
  case round =>
    obtain ⟨i, p, M, lf, k, hi1, hi2, hp, hpe, hfe, rfl, rfl, rfl, hown, hrs, hg⟩ := hrel
    have HPE := Lib.hid hpe
    have HFE := Lib.hid hfe
    have HO := Lib.hid hown
    have HRS2 := Lib.hid hrs
    have HG := Lib.hid hg
    have HBr := Lib.hid (below_of_only HBB.out hg HBB.out.size (by have := HRS.out; have := HRG.out; omega))
    have HEr := Lib.hid (HE.out.to HBr.out HBr.out.size)
    clear hpe hfe hown hrs hg
    by_cases hin : i ≤ lc ∧ i < 60
    · obtain ⟨hin1, hin2⟩ := hin
      -- the end of the piece
      obtain ⟨e, he1, he2, hee⟩ : ∃ e : Nat, p ≤ e ∧ e ≤ m ∧ (if i < lc ∧ i < 59 then (e : Int) = p + zs.getD i 0 % ((m : Int) - p + 1) else e = m) := by
        by_cases h : i < lc ∧ i < 59
        · have h1 := Int.emod_nonneg (zs.getD i 0) (show (m : Int) - p + 1 ≠ 0 by omega)
          have h2 := Int.emod_lt_of_pos (zs.getD i 0) (show 0 < (m : Int) - p + 1 by omega)
          refine ⟨(p + zs.getD i 0 % ((m : Int) - p + 1)).toNat, by omega, by omega, ?_⟩
          rw [if_pos h]; omega
        · exact ⟨m, hp, Nat.le_refl _, by rw [if_neg h]⟩
      have HEE := Lib.hid hee
      clear hee
      have d60 : decide ((i : Int) < 60) = true := by simp; omega
      have dlc : decide ((i : Int) ≤ lc) = true := by simp; omega
      go_upto_region 14 with (fail)
      go_cut [54] from 35 to 82 (fun s54 wc => wr = wc ∧ s54 = .bool (decide (i < lc ∧ i < 59)))
      case first =>
        by_cases h1 : i < lc
        · have e1 : decide ((i : Int) < lc) = true := by simp; omega
          by_cases h2 : i < 59
          · have e2 : decide ((i : Int) < 59) = true := by simp; omega
            go_wp2_with fail
            go_meet
            exact ⟨rfl, by rw [decide_eq_true (show i < lc ∧ i < 59 from ⟨h1, h2⟩)]⟩
          · have e2 : decide ((i : Int) < 59) = false := by simp; omega
            go_wp2_with fail
            go_meet
            exact ⟨rfl, by rw [decide_eq_false (fun h => h2 h.2)]⟩
        · have e1 : decide ((i : Int) < lc) = false := by simp; omega
          go_wp2_with fail
          go_meet
          exact ⟨rfl, by rw [decide_eq_false (fun h => h1 h.1)]⟩
      case rest =>
      obtain ⟨rfl, rfl⟩ := hcut
      go_upto_if 54 with (fail)
      go_cut [13] from 35 to 82 (fun s13 wc => wr = wc ∧ s13 = .int .i64 e)
      case first =>
        by_cases h12 : i < lc ∧ i < 59
        · obtain ⟨h1, h2⟩ := h12
          have d54 : decide (i < lc ∧ i < 59) = true := decide_eq_true ⟨h1, h2⟩
          rw [d54]
          have h5 := HEE.out
          rw [if_pos ⟨h1, h2⟩] at h5
          obtain ⟨bC, oC, hCA, hCB, hCx⟩ := HCX.out (by omega)
          subst hCA
          have g0 : wr.cell? ⟨bC, oC + i, none⟩ = some (.int .i64 (zs.getD i 0)) := (HBr.out.cell (p := ⟨bC, oC + i, none⟩) hCB).trans (hCx i _ (by
            have := HLC.out
            rw [List.getElem?_map, List.getElem?_eq_getElem (by omega), List.getD_eq_getElem?_getD, List.getElem?_eq_getElem (by omega)]; rfl))
          obtain ⟨z, hz⟩ : ∃ z, z = zs.getD i 0 := ⟨_, rfl⟩
          rw [← hz] at g0 h5
          have q1 := Int.emod_nonneg z (show (m : Int) - p + 1 ≠ 0 by omega)
          have q2 := Int.emod_lt_of_pos z (show 0 < (m : Int) - p + 1 by omega)
          obtain ⟨q, hq⟩ : ∃ q, q = z % ((m : Int) - p + 1) := ⟨_, rfl⟩
          rw [← hq] at q1 q2 h5
          have HQ := Lib.hid hq
          have H5 := Lib.hid h5
          clear hz hq hCx h5 d54
          go_wp2_with fail
          refine (place_any z ((m : Int) - p + 1) wr (by omega) (by omega)).mono ?_
          rintro e2 w9 ⟨rfl, rfl⟩
          rw [← HQ.out]
          go_wp2_with fail
          go_meet
          exact ⟨rfl, by rw [H5.out]⟩
        · have d54 : decide (i < lc ∧ i < 59) = false := decide_eq_false h12
          rw [d54]
          have h5 := HEE.out
          rw [if_neg h12] at h5
          subst h5
          clear h12 d54
          go_wp2_with fail
          go_meet
          exact ⟨rfl, rfl⟩
      case rest =>
        obtain ⟨rfl, rfl⟩ := hcut
        have hend : (i + 1 = lc + 1 ∨ i + 1 = 60) → e = m := fun h => by
          have := HEE.out
          rw [if_neg (by omega)] at this
          exact this
        have HEND := Lib.hid hend
        obtain ⟨hst, hst2, hst3, hst4⟩ := cuts_step HM.out HFE.out he1 he2
        obtain ⟨pc, hpc⟩ : ∃ pc, pc = (bw.take e).drop p := ⟨_, rfl⟩
        have hpl : pc.length = e - p := by rw [hpc, List.length_drop, List.length_take, ← HM.out]; omega
        have HPC := Lib.hid hpc
        rw [← hpc] at hst
        have HST := Lib.hid hst
        have HPL := Lib.hid hpl
        clear hend hst hpc hpl
        have HBw := Lib.hid ((SlN.below (show SlN w w.heap.size 1 (.slice BA m bc) m (bv bw) from by have := HBV.out; unfold Sl at this; rw [bv_length, ← HM.out] at this; exact this) HBr.out).more HBr.out.size)
        have hfeed : ∀ v, Sl wr wr.heap.size v (bv pc) → Calls Tryd.prog 32 #[.pointer (some ⟨sg, 0, none⟩), v] wr (FeedPost' A sg lf k pc wr) := fun v hv => feed_any' A allErrs H2 H3 H4 sg lf k v pc wr HEr.out HRS2.out hv (fun _ => by rw [HPL.out]; omega)
        have HFEED := Lib.hid hfeed
        clear hfeed
        go_upto_region 16 with (fail)
        go_cut [14, 15] from 35 to 82 (fun s14 s15 wc => CutsFed A wr sg lf k pc s14 s15 wc)
        case first =>
          by_cases hm0 : m = 0
          · subst hm0
            obtain rfl : e = 0 := by omega
            obtain rfl : p = 0 := by omega
            have hpc0 : Hid (pc = []) := List.eq_nil_of_length_eq_zero (by rw [HPL.out])
            rcases BA with _ | a
            · obtain rfl := HB0.out rfl
              go_wp2_with fail
              refine (HFEED.out _ (by rw [hpc0.out]; exact Sl.nil_ _ _)).mono ?_
              rintro e9 w9 ⟨⟨vl, rfl, g1, g2, g3⟩, g4⟩
              have H9 : Hid (CutsFed A wr sg lf k pc vl (errV A (fed lf k pc).2.2) w9) := ⟨rfl, g1, g2, g3, g4⟩
              clear g1 g2 g3 g4
              go_wp2_with fail
              go_meet
              exact H9.out
            · by_cases hbc0 : bc = 0
              · subst hbc0
                go_wp2_with fail
                refine (HFEED.out _ (by rw [hpc0.out]; exact SlN.toSl (SlN.cut0 (by unfold maxLen; omega) (fun h => rfl)))).mono ?_
                rintro e9 w9 ⟨⟨vl, rfl, g1, g2, g3⟩, g4⟩
                have H9 : Hid (CutsFed A wr sg lf k pc vl (errV A (fed lf k pc).2.2) w9) := ⟨rfl, g1, g2, g3, g4⟩
                clear g1 g2 g3 g4
                go_wp2_with fail
                go_meet
                exact H9.out
              · go_wp2_with fail
                refine (HFEED.out _ (by rw [hpc0.out]; exact SlN.toSl (SlN.cut0 (by unfold maxLen; omega) (fun h => by cases h)))).mono ?_
                rintro e9 w9 ⟨⟨vl, rfl, g1, g2, g3⟩, g4⟩
                have H9 : Hid (CutsFed A wr sg lf k pc vl (errV A (fed lf k pc).2.2) w9) := ⟨rfl, g1, g2, g3, g4⟩
                clear g1 g2 g3 g4
                go_wp2_with fail
                go_meet
                exact H9.out
          · obtain ⟨b0, off, hA, _, _⟩ := HBX.out (by omega)
            subst hA
            have hcut := SlN.cut_ HBw.out he1 he2
            rw [← bv_take, ← bv_drop, ← HPC.out] at hcut
            have HCUT := Lib.hid hcut
            clear hcut
            by_cases hpc1 : p = bc
            · obtain rfl : m = bc := by omega
              obtain rfl : e = m := by omega
              subst hpc1
              have hpc0 : Hid (pc = []) := List.eq_nil_of_length_eq_zero (by rw [HPL.out]; omega)
              go_wp2_with fail
              refine (HFEED.out _ (by rw [hpc0.out]; first | exact SlN.toSl (SlN.cut0 (by unfold maxLen; omega) (fun h => by cases h)))).mono ?_
              rintro e9 w9 ⟨⟨vl, rfl, g1, g2, g3⟩, g4⟩
              have H9 : Hid (CutsFed A wr sg lf k pc vl (errV A (fed lf k pc).2.2) w9) := ⟨rfl, g1, g2, g3, g4⟩
              clear g1 g2 g3 g4
              go_wp2_with fail
              go_meet
              exact H9.out
            · have hne : ¬ bc = p := fun h => hpc1 h.symm
              go_wp2_with fail
              refine (HFEED.out _ HCUT.out.toSl).mono ?_
              rintro e9 w9 ⟨⟨vl, rfl, g1, g2, g3⟩, g4⟩
              have H9 : Hid (CutsFed A wr sg lf k pc vl (errV A (fed lf k pc).2.2) w9) := ⟨rfl, g1, g2, g3, g4⟩
              clear g1 g2 g3 g4
              go_wp2_with fail
              go_meet
              exact H9.out
        case rest =>
          obtain ⟨rfl, g1, g2, g3, g4⟩ := hcut
          obtain ⟨M2, lf2, k2, hF2⟩ : ∃ a b c, fed lf k pc = (a, b, c) := ⟨_, _, _, rfl⟩
          have hst := HST.out
          rw [hF2] at g1 g2 g4 hst ⊢
          simp only at g1 g2 g4 hst ⊢
          have HST2 := Lib.hid hst
          have G2 := Lib.hid g2
          have G4 := Lib.hid g4
          have HGC := Lib.hid (only_trans HG.out g3)
          have HOC := Lib.hid (HO.out.kept g3 (own_ne HO.out HZB.out))
          have HMC : Hid (M2.length ≤ 3000) := by
            have h1 := feedL_count _ (bw.take e) (Nat.le_refl _)
            rw [hst] at h1
            simp only [List.length_take, List.length_append] at h1
            show _ ≤ _; omega
          have hrz : Hid (wr.heap.size ≤ wc.heap.size) := g3.size
          have G1 := Lib.hid g1
          have hmc := HMC.out
          obtain ⟨A14, c14, rfl⟩ := own_slice' g1
          have HF2 := Lib.hid hF2
          clear hst g1 g2 g3 g4 hF2
          by_cases hk0 : k = 0
          · subst hk0
            rw [errV_zero]
            go_wp2_with (
              at_builtin
              refine wpList_app rfl _ _ _ _ rfl _ _ rfl rfl _ (raws_app _ HOC.out G1.out (Nat.le_trans HG.out.size hrz.out) (by omega)) ?_
              intro v' w' hR
              obtain ⟨A3, c3, rfl⟩ := own_slice' hR.out.1)
            go_roundw
            case rel =>
              have hS := RIz.app (G4.out rfl) HO.out (Nat.le_refl _) HZB.out (Nat.lt_of_lt_of_le HZB.out HG.out.size) hR.out.2.1
              refine ⟨i + 1, e, M ++ M2, lf2, k2, by omega, by omega, by omega, HEND.out, HST2.out, by go_num, rfl, rfl, ?_, hS, ?_⟩
              · rw [rawCells_app, List.length_append]; exact hR.out.1
              · exact only_below HGC.out hR.out.2.2
            case measure => simp [intOf]; omega
          · have hF := HF2.out
            unfold fed at hF
            rw [if_pos hk0] at hF
            injection hF with e1 e2
            injection e2 with e2 e3
            subst e1
            subst e2
            subst e3
            have hst := HST2.out
            rw [List.append_nil] at hst
            have HST3 := Lib.hid hst
            rw [errV_pos A (Nat.pos_of_ne_zero hk0)]
            have HK := Lib.hid (Nat.pos_of_ne_zero hk0)
            clear hst hk0
            go_wp2_with fail
            go_roundw
            case rel =>
              exact ⟨i + 1, e, M, lf, k, by omega, by omega, by omega, HEND.out, HST3.out, by go_num, rfl, (errV_pos A HK.out).symm, HOC.out, G2.out, HGC.out⟩
            case measure => simp [intOf]; omega
    · have hpm : p = m := HPE.out (by omega)
      subst hpm
      have hfe := HFE.out
      rw [List.take_of_length_le (by rw [← HM.out]; exact Nat.le_refl _), HFW.out] at hfe
      injection hfe with e1 e2
      injection e2 with e2 e3
      subst e1
      subst e2
      subst e3
      have hin' : lc < i ∨ (i ≤ lc ∧ 60 ≤ i) := by omega
      have HW2 : Hid (SlN wr wr.heap.size 3 (.slice WA MW.length Wc) MW.length (rawCells MW)) := SlN.of_own (HOB.out wr HG.out)
      have HL2 : Hid (SlN wr wr.heap.size 3 _ MW.length (rawCells MW)) := SlN.of_own HO.out
      have HLr : Hid (Blk wr rg 97 #[.slice LA qW Lc, errV A kW]) := HLB.out.grown HG.out (by simp; have := HRS.out; omega)
      have hkind : ∀ w, Errs w w.heap.size allErrs A → Calls Tryd.prog 18 #[errV A kW] w fun e w' => e = .returned (.int .i64 kW) ∧ Below w.heap.size w w' := fun w h => kind_any A kW (by have := HKW.out; omega) w h
      have HKD := Lib.hid hkind
      clear hkind hin
      obtain ⟨VA, Vc, rfl⟩ := own_slice' HO.out
      rcases hin' with hx | ⟨hx, hx2⟩
      all_goals
        go_wp2_with fail
        refine (same_any _ _ MW wr HW2.out HL2.out).mono ?_
        rintro e9 w9 ⟨rfl, q, rfl⟩
        have HBq : Hid (Below w.heap.size w (wr.drewN q)) := below_drewN HBr.out q
        have HLq : Hid (Blk (wr.drewN q) rg 97 #[.slice LA qW Lc, errV A kW]) := HLr.out
        have HSq : Hid (RIs A (wr.drewN q) sg lW kW) := HRS2.out
        generalize wr.drewN q = w9 at HBq HLq HSq ⊢
        go_wp2_with fail
        refine (HKD.out w9 (HE.out.to HBq.out HBq.out.size)).mono ?_
        rintro e10 w10 ⟨rfl, hb10⟩
        have HB10 := Lib.hid (HBq.out.trans (hb10.mono HBq.out.size))
        have HL10 := Lib.hid (HLq.out.below hb10 HLq.out.lt)
        have HS10 := Lib.hid (HSq.out.below hb10)
        clear hb10
        go_wp2_with fail
        refine (HKD.out w10 (HE.out.to HB10.out HB10.out.size)).mono ?_
        rintro e11 w11 ⟨rfl, hb11⟩
        have HB11 := Lib.hid (HB10.out.trans (hb11.mono HB10.out.size))
        have HL11 := Lib.hid (HL10.out.below hb11 HL10.out.lt)
        have HS11 := Lib.hid (HS10.out.below hb11)
        clear hb11
        go_wp2_with fail
        refine (left_blk rg qW Lc LA _ w11 HL11.out).mono ?_
        rintro e12 w12 ⟨rfl, rfl⟩
        go_wp2_with fail
        refine (left_any A sg lW kW w11 HS11.out).mono ?_
        rintro e12 w12 ⟨rfl, rfl⟩
        rw [← HQW.out]
        go_wp2_with fail
        refine (w5awake_any A allErrs H2 H3 H4 w11 (HE.out.to HB11.out HB11.out.size)).mono ?_
        rintro e13 w13 ⟨rfl, hb13⟩
        go_wp2
        go_ret
        exact ⟨rfl, HB11.out.trans (hb13.mono HB11.out.size)⟩
end Go.Proofs.YtihbgkighckiiaaDoor
