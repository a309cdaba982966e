/- The walk over tableaulaw21.PingPlays: the ping and the document's, call by call. -/
import Derived.Test.YtnaagmjjnapklaaPing
import Derived.Test.YtnaagmjjnapklaaOpen2
import Derived.Test.YtnaagmjjnapklaaPl
import Derived.Deep.RegionHeld3
import Derived.Deep.CutRange
import Derived.Deep.CutBlock
namespace Go.Proofs.Ytnaagmjjnapklaa
open Go.ChangeShapes Go.WideShapes Go.ChangeAt Go.RowKit Go.Deep
set_option maxRecDepth 100000

/-- A slice of calls: three numbers each. -/
def OpsP (w : World) (B : Nat) (v : Value) (n : Nat) (K S T : Nat → Int) : Prop :=
  SlF w B 3 v n (fun i j => if j = 0 then .int .i64 (K i) else if j = 1 then .int .i64 (S i) else .int .i64 (T i))
instance : Inhabited Value := ⟨.nilIface⟩
set_option linter.unusedVariables false in
theorem open_pops {H : Type} {enc : TypeId × Value → H} {w : World} {base0 : Nat} {v : Value} {d : DataW H} {p : List MemPlace} (h : DataW.Trod enc Try.prog w 0 (fun _ => true) true 31 v d p) (hv : Value.okWide Try.prog w .any base0 31 v) (_hr : ∀ n ∈ d.weights Try.prog 31, decide (n ≤ reachBytes) = true) :
    ∃ x : Nat × (Nat → Int) × (Nat → Int) × (Nat → Int), OpsP w w.heap.size v x.1 x.2.1 x.2.2.1 x.2.2.2 := by
  obtain ⟨n, V, h1, h2⟩ := open_rows (k := 3) Try.underlying31 (by kernel_rfl) (by omega) h hv
  have c3 : Try.prog.cellsOf 3 = 1 := by kernel_rfl
  have one : ∀ i, i < n → ∃ x : Int × Int × Int, V i 0 = .int .i64 x.1 ∧ V i 1 = .int .i64 x.2.1 ∧ V i 2 = .int .i64 x.2.2 := by
    intro i hi
    obtain ⟨f, x, hx⟩ := h2 i hi
    obtain ⟨y0, y1, y2, m, _, _, f0, f1, f2⟩ := trod_struct3 Try.underlying36 hx
    simp only [c3] at f0 f1 f2
    have e0 : (((List.range 3).map (V i)).drop 0).take 1 = [V i 0] := rfl
    have e1 : (((List.range 3).map (V i)).drop 1).take 1 = [V i 1] := rfl
    have e2 : (((List.range 3).map (V i)).drop 2).take 1 = [V i 2] := rfl
    rw [e0] at f0
    rw [e1] at f1
    rw [e2] at f2
    obtain ⟨a, ha, _⟩ := DataW.trod_int Try.underlying3 f0
    obtain ⟨b, hb, _⟩ := DataW.trod_int Try.underlying3 f1
    obtain ⟨c, hc, _⟩ := DataW.trod_int Try.underlying3 f2
    exact ⟨(a, b, c), by simpa using ha, by simpa using hb, by simpa using hc⟩
  obtain ⟨X, hX⟩ := choose_lt (α := Int × Int × Int) one
  refine ⟨⟨n, fun i => (X i).1, fun i => (X i).2.1, fun i => (X i).2.2⟩, ?_⟩
  obtain ⟨A, c, hv, hc, hm, h0, hx⟩ := h1
  refine ⟨A, c, hv, hc, hm, h0, fun hn => ?_⟩
  obtain ⟨b, off, hA, hB, hx⟩ := hx hn
  refine ⟨b, off, hA, hB, fun i j hi hj => (hx i j hi hj).trans ?_⟩
  have : j = 0 ∨ j = 1 ∨ j = 2 := by omega
  rcases this with rfl | rfl | rfl
  · simp [(hX i hi).1]
  · simp [(hX i hi).2.1]
  · simp [(hX i hi).2.2]

abbrev St := Option (Int × Int)
/-- Both pings, and the call's own variable (block o). -/
def J (w0 : World) (g h o : Nat) (oc : Array Value) (s1 s2 : St) (w : World) : Prop := PingIs w g s1 ∧ PRefIs w h s2 ∧ Blk w o 36 oc ∧ Below w0.heap.size w0 w
section
variable {w0 w w' : World} {g h o : Nat} {oc : Array Value} {s1 s2 s1' s2' : St}
theorem PingIs.apart (hp : PingIs w g s1) (hr : PRefIs w h s2) (hg : w.grownBy w' (some h)) (hne : g ≠ h) : PingIs w' g s1 := by
  have hb : Blk w h _ _ := hr
  rcases s1 with _ | ⟨s, t⟩
  · exact Blk.grown (h := hp) hg (fun e => hne (by injection e))
  · obtain ⟨b, h1, h2, h3⟩ := hp
    have hbh : b ≠ h := by
      rintro rfl
      unfold Blk at h3 hb
      rw [h3] at hb
      simp only [Option.some.injEq, Obj.cells.injEq] at hb
      have := congrArg Array.size hb.1
      simp at this
    exact ⟨b, h1, h2.grown hg (fun e => hne (by injection e)), h3.grown hg (fun e => hbh (by injection e))⟩
theorem PingIs.below (hp : PingIs w g s1) (hb : Below w.heap.size w w') : PingIs w' g s1 := by
  rcases s1 with _ | ⟨s, t⟩
  · exact Blk.below (h := hp) hb (Blk.lt hp)
  · obtain ⟨b, h1, h2, h3⟩ := hp
    exact ⟨b, h1, h2.below hb h2.lt, h3.below hb h3.lt⟩
theorem PRefIs.below (hp : PRefIs w h s2) (hb : Below w.heap.size w w') : PRefIs w' h s2 := Blk.below (h := hp) hb (Blk.lt hp)
theorem J.drew (hj : Hid (J w0 g h o oc s1 s2 w)) : Hid (J w0 g h o oc s1 s2 w.drew) := ⟨hj.out.1.drewN 1, Blk.drewN hj.out.2.1 1, Blk.drewN hj.out.2.2.1 1, below_drewN hj.out.2.2.2 1⟩
theorem J.first (hj : J w0 g h o oc s1 s2 w) (hg : w.grownBy w' (some g)) (hq : PingIs w' g s1') (hgh : h ≠ g) (hgo : o ≠ g) (hB : w0.heap.size ≤ g) : J w0 g h o oc s1' s2 w' := by
  obtain ⟨h1, h2, h4, h5⟩ := hj
  exact ⟨hq, Blk.grown (h := h2) hg (fun e => hgh (by injection e)), h4.grown hg (fun e => hgo (by injection e)), below_of_only h5 hg h5.size hB⟩
theorem J.second (hj : J w0 g h o oc s1 s2 w) (hg : w.grownBy w' (some h)) (hq : PRefIs w' h s2') (hgh : g ≠ h) (hgo : o ≠ h) (hB : w0.heap.size ≤ h) : J w0 g h o oc s1 s2' w' := by
  obtain ⟨h1, h2, h4, h5⟩ := hj
  exact ⟨h1.apart h2 hg hgh, hq, h4.grown hg (fun e => hgo (by injection e)), below_of_only h5 hg h5.size hB⟩
theorem j_ask (s t : Int) (hj : Hid (J w0 g h o oc s1 s2 w)) (hgh : h ≠ g) (hgo : o ≠ g) (hB : w0.heap.size ≤ g) :
    Calls Try.prog 12 #[.pointer (some ⟨g, 0, none⟩), .int .i64 s, .int .i64 t] w fun e w' => e = .returned (.bool (askB s1)) ∧ Hid (J w0 g h o oc (askS s1 s t) s2 w') ∧ ∀ i, w'.cell? ⟨o, i, none⟩ = oc[i]? :=
  (ask_any g s1 s t w hj.out.1).mono fun _ _ ⟨he, hp, hg⟩ => have k := hj.out.first hg hp hgh hgo hB; ⟨he, k, k.2.2.1.cell⟩
theorem j_rask (s t : Int) (hj : Hid (J w0 g h o oc s1 s2 w)) (hgh : g ≠ h) (hgo : o ≠ h) (hB : w0.heap.size ≤ h) :
    Calls Try.prog 18 #[.pointer (some ⟨h, 0, none⟩), .int .i64 s, .int .i64 t] w fun e w' => e = .returned (.bool (askB s2)) ∧ Hid (J w0 g h o oc s1 (askS s2 s t) w') ∧ ∀ i, w'.cell? ⟨o, i, none⟩ = oc[i]? :=
  (rask_any h s2 s t w hj.out.2.1).mono fun _ _ ⟨he, hp, hg⟩ => have k := hj.out.second hg hp hgh hgo hB; ⟨he, k, k.2.2.1.cell⟩
theorem j_pong (s : Int) (hj : Hid (J w0 g h o oc s1 s2 w)) (hgh : h ≠ g) (hgo : o ≠ g) (hB : w0.heap.size ≤ g) :
    Calls Try.prog 13 #[.pointer (some ⟨g, 0, none⟩), .int .i64 s] w fun e w' => e = .returned (.bool (pongB s1 s)) ∧ Hid (J w0 g h o oc (pongS s1 s) s2 w') ∧ ∀ i, w'.cell? ⟨o, i, none⟩ = oc[i]? :=
  (pong_any g s1 s w hj.out.1).mono fun _ _ ⟨he, hp, hg⟩ => have k := hj.out.first hg hp hgh hgo hB; ⟨he, k, k.2.2.1.cell⟩
theorem j_rpong (s : Int) (hj : Hid (J w0 g h o oc s1 s2 w)) (hgh : g ≠ h) (hgo : o ≠ h) (hB : w0.heap.size ≤ h) :
    Calls Try.prog 16 #[.pointer (some ⟨h, 0, none⟩), .int .i64 s] w fun e w' => e = .returned (.bool (pongB s2 s)) ∧ Hid (J w0 g h o oc s1 (pongS s2 s) w') ∧ ∀ i, w'.cell? ⟨o, i, none⟩ = oc[i]? :=
  (rpong_any h s2 s w hj.out.2.1).mono fun _ _ ⟨he, hp, hg⟩ => have k := hj.out.second hg hp hgh hgo hB; ⟨he, k, k.2.2.1.cell⟩
end
/-- What holds at the head of a round. -/
def PlayRel (w0 : World) (g h : Nat) (a : Value) (wr : World) : Prop := ∃ (i : Nat) (st : St), a = .int .i64 i ∧ i ≤ 60 ∧ PingIs wr g st ∧ PRefIs wr h st ∧ Below w0.heap.size w0 wr

set_option maxHeartbeats 6400000 in
theorem pplays_walk (lv : Value) (x : Nat × (Nat → Int) × (Nat → Int) × (Nat → Int)) (w : World) (hL : OpsP w w.heap.size lv x.1 x.2.1 x.2.2.1 x.2.2.2) :
    Calls Try.prog 5 #[lv] w fun e w' => e = .returned (.bool true) ∧ Below w.heap.size w w' := by
  obtain ⟨ln, K, S, T⟩ := x
  obtain ⟨LA, lc, hlv, hlc, hlm, _, hLx⟩ := hL
  simp only at hlv hlc hLx
  subst hlv
  have HLX := Lib.hid hLx
  unfold maxLen at hlm
  clear hLx
  go_enter Try.func5, Try.ntmps5
  go_wp2_with fail
  refine (new_any w).mono ?_
  rintro e w1 ⟨rfl, hq1, hb1⟩
  have HQ1 := Lib.hid hq1
  have HB1 := Lib.hid hb1
  have hs1 := hb1.size
  have hgl := hq1.lt
  clear hq1 hb1
  obtain ⟨g, hg⟩ : ∃ g, g = w.heap.size := ⟨_, rfl⟩
  rw [← hg]
  rw [← hg] at HQ1 hgl
  have hgh : g ≠ w1.heap.size := by omega
  have hBg : w.heap.size ≤ g := by omega
  have hBh : w.heap.size ≤ w1.heap.size := hs1
  clear hg hs1 hgl
  have HQ2 : Hid (PingIs (w1.alloc (.cells #[.bool false, .int .i64 0, .int .i64 0] 34)) g none ∧ PRefIs (w1.alloc (.cells #[.bool false, .int .i64 0, .int .i64 0] 34)) w1.heap.size none ∧ Below w.heap.size w (w1.alloc (.cells #[.bool false, .int .i64 0, .int .i64 0] 34))) :=
    ⟨HQ1.out.below ((Below.refl _ _).alloc (Nat.le_refl _) _), Blk.new _ _ _, HB1.out.alloc hBh _⟩
  obtain ⟨h, hh⟩ : ∃ h, h = w1.heap.size := ⟨_, rfl⟩
  rw [← hh] at hgh hBh HQ2
  have hhg : h ≠ g := Ne.symm hgh
  have HH := Lib.hid hh
  clear hh HQ1
  go_upto_region 3 with (fail)
  go_upto_region 3 with (fail)
  go_upto_region 3 with (fail)
  rw [← HH.out]
  generalize (w1.alloc (Obj.cells _ _ _)) = w2 at HQ2 ⊢
  go_wp2_with fail
  go_loopw [5] (PlayRel w g h) (fun d _ => 60 - (intOf d).toNat)
  case atStart => exact ⟨0, none, rfl, by omega, HQ2.out⟩
  case round =>
    clear HQ2
    obtain ⟨i, st, rfl, hi, hq, hr, hb⟩ := hrel
    have HQ := Lib.hid hq
    have HR := Lib.hid hr
    have HB := Lib.hid hb
    have hgr := hq.lt
    have hhr := Blk.lt hr
    clear hq hr hb
    by_cases hlt : i < ln ∧ i < 60
    · obtain ⟨hl1, hl2⟩ := hlt
      obtain ⟨lb, lo, rfl, hlb, hlx⟩ := HLX.out (by omega)
      have hc0 : wr.cell? ⟨lb, lo + i * 3, none⟩ = some (.int .i64 (K i)) := (HB.out.cell (p := ⟨lb, lo + i * 3, none⟩) hlb).trans (by simpa using hlx i 0 hl1 (by omega))
      have hc1 : wr.cell? ⟨lb, lo + i * 3 + 1, none⟩ = some (.int .i64 (S i)) := (HB.out.cell (p := ⟨lb, lo + i * 3 + 1, none⟩) hlb).trans (by have := hlx i 1 hl1 (by omega); simpa [Nat.add_assoc] using this)
      have hc2 : wr.cell? ⟨lb, lo + i * 3 + 2, none⟩ = some (.int .i64 (T i)) := (HB.out.cell (p := ⟨lb, lo + i * 3 + 2, none⟩) hlb).trans (by have := hlx i 2 hl1 (by omega); simpa [Nat.add_assoc] using this)
      obtain ⟨kk, hkk⟩ : ∃ k, k = K i := ⟨_, rfl⟩
      obtain ⟨ss, hss⟩ : ∃ k, k = S i := ⟨_, rfl⟩
      obtain ⟨tt, htt⟩ : ∃ k, k = T i := ⟨_, rfl⟩
      rw [← hkk] at hc0
      rw [← hss] at hc1
      rw [← htt] at hc2
      clear hlx hkk hss htt
      have hj : J w g h wr.heap.size #[.int .i64 kk, .int .i64 ss, .int .i64 tt] st st (wr.alloc (.cells #[.int .i64 kk, .int .i64 ss, .int .i64 tt] 36)) :=
        ⟨HQ.out.below ((Below.refl _ _).alloc (Nat.le_refl _) _), HR.out.below ((Below.refl _ _).alloc (Nat.le_refl _) _), Blk.new _ _ _, HB.out.alloc HB.out.size _⟩
      have HJ := Lib.hid hj
      have hgo : wr.heap.size ≠ g := by omega
      have hho : wr.heap.size ≠ h := by omega
      clear hj
      go_wp2_with fail
      generalize (wr.alloc (Obj.cells _ _)) = wo at HJ ⊢
      generalize wr.heap.size = o at HJ hgo hho ⊢
      refine (place_any kk 5 wo (by omega) (by omega)).mono ?_
      rintro e w0 ⟨rfl, rfl⟩
      have k0 : wo.cell? ⟨o, 0, none⟩ = some (.int .i64 kk) := HJ.out.2.2.1.cell 0
      have k1 : wo.cell? ⟨o, 1, none⟩ = some (.int .i64 ss) := HJ.out.2.2.1.cell 1
      have k2 : wo.cell? ⟨o, 2, none⟩ = some (.int .i64 tt) := HJ.out.2.2.1.cell 2
      have HJ1 := J.drew HJ
      obtain ⟨p, hp⟩ : ∃ p, p = kk % 5 := ⟨_, rfl⟩
      have hp0 : 0 ≤ p := by omega
      have hp5 : p < 5 := by omega
      rw [← hp]
      clear hp
      go_upto_block 2 with (fail)
      go_cut [7] from 15 to 90 (fun s7 wc => s7 = .bool true ∧ ∃ st' : St, PingIs wc g st' ∧ PRefIs wc h st' ∧ Below w.heap.size w wc)
      case rest =>
        obtain ⟨rfl, st', hq, hr, hb⟩ := hcut
        have HQ5 := Lib.hid hq
        have HR5 := Lib.hid hr
        have HB5 := Lib.hid hb
        have r0 := Blk.cell hr 0
        have r1 := Blk.cell hr 1
        simp at r0 r1
        clear hq hr hb
        go_wp2_with fail
        refine (waits_any g st' _ HQ5.out).mono ?_
        rintro e w5 ⟨rfl, rfl⟩
        obtain ⟨b5, hb5⟩ : ∃ b, b = st'.isSome := ⟨_, rfl⟩
        obtain ⟨s5, hs5⟩ : ∃ b, b = serS st' := ⟨_, rfl⟩
        rw [← hb5, ← hs5]
        rw [← hb5] at r0
        rw [← hs5] at r1
        clear hb5 hs5
        rcases b5
        all_goals
          go_wp2_with fail
          go_roundw
          case rel => exact ⟨i + 1, st', by go_num, by omega, HQ5.out, HR5.out, HB5.out⟩
          case measure => simp [intOf]; omega
      case first =>
        by_cases hc : p = 2 ∨ p = 3
        · rcases hc with rfl | rfl
          all_goals
            go_wp2_with fail
            go_region_held3 (fun w' => w'.cell? ⟨o, 1, none⟩ = some (.int .i64 ss) ∧ w'.cell? ⟨o, 2, none⟩ = some (.int .i64 tt)) (go_keep) (first
              | (go_at_call 13; refine (j_pong ss (by assumption) hhg hgo hBg).mono ?_; rintro e w' ⟨rfl, hj, hcell⟩; have k1' := hcell 1; have k2' := hcell 2; simp at k1' k2'; clear hcell)
              | (go_at_call 16; refine (j_rpong ss (by assumption) hgh hho hBh).mono ?_; rintro e w' ⟨rfl, hj, hcell⟩; have k1' := hcell 1; have k2' := hcell 2; simp at k1' k2'; clear hcell))
            all_goals
              have HJF : Hid (J w g h o _ (pongS st ss) (pongS st ss) _) := hj
              go_wp2_with fail
              go_meet
              case rel => exact ⟨rfl, pongS st ss, HJF.out.1, HJF.out.2.1, HJF.out.2.2.2⟩
        · have hn2 : (p == 2) = false := by simp; omega
          have hn3 : (p == 3) = false := by simp; omega
          by_cases hc4 : p = 4
          · subst hc4
            go_wp2_with fail
            go_quiet (first
              | (go_at_call 14; exact Calls.quiet_of_same ((late_any g st tt _ (HJ.out.1.drewN _)).mono fun e w' ⟨he, hw⟩ => ⟨he, hw.symm⟩))
              | (go_at_call 17; exact Calls.quiet_of_same ((rlate_any h st tt _ (Blk.drewN HJ.out.2.1 _)).mono fun e w' ⟨he, hw⟩ => ⟨he, hw.symm⟩)))
            all_goals
              go_wp2_with fail
              go_meet
              case rel => exact ⟨rfl, st, HJ.out.1.drewN _, Blk.drewN HJ.out.2.1 _, below_drewN HJ.out.2.2.2 _⟩
          · have hn4 : (p == 4) = false := by simp; omega
            go_wp2_with fail
            go_region_held3 (fun w' => w'.cell? ⟨o, 1, none⟩ = some (.int .i64 ss) ∧ w'.cell? ⟨o, 2, none⟩ = some (.int .i64 tt)) (go_keep) (first
              | (go_at_call 12; refine (j_ask ss tt (by assumption) hhg hgo hBg).mono ?_; rintro e w' ⟨rfl, hj, hcell⟩; have k1' := hcell 1; have k2' := hcell 2; simp at k1' k2'; clear hcell)
              | (go_at_call 18; refine (j_rask ss tt (by assumption) hgh hho hBh).mono ?_; rintro e w' ⟨rfl, hj, hcell⟩; have k1' := hcell 1; have k2' := hcell 2; simp at k1' k2'; clear hcell))
            all_goals
              have HJF : Hid (J w g h o _ (askS st ss tt) (askS st ss tt) _) := hj
              go_wp2_with fail
              go_meet
              case rel => exact ⟨rfl, askS st ss tt, HJF.out.1, HJF.out.2.1, HJF.out.2.2.2⟩
    · have hex : ¬ i < ln ∨ (i < ln ∧ i = 60) := by omega
      clear hlt
      rcases hex with hex | ⟨hex, rfl⟩
      all_goals
        go_wp2_with fail
        refine (pawake_any wr).mono ?_
        rintro e w5 ⟨rfl, hb5⟩
        go_wp2
        go_ret
        exact ⟨rfl, HB.out.trans (hb5.mono HB.out.size)⟩
end Go.Proofs.Ytnaagmjjnapklaa
