/- The walk over tableaulaw10.MemoryPlays: the memory and the document answer alike, call by call. No condition but what is laid. -/
import Derived.Test.YtagjmkgbfbaekaaDoorMJoint
import Derived.Test.YtagjmkgbfbaekaaDoorMOpen
import Derived.Test.YtagjmkgbfbaekaaDoorPl
import Derived.Deep.RegionHeld3
import Derived.Deep.CutRange
import Derived.Deep.CutBlock
import Derived.Deep.WholeRow
import Derived.BigQuiet
namespace Go.Proofs.YtagjmkgbfbaekaaDoor
open Go.RowKit
set_option maxRecDepth 100000

section
variable {P : Program} {ops : Array Oper} {rest : List Oper} {o : Oper} {a : Act} {w : World} {Q : Exit → Act → World → Prop}
theorem wpList_valM (hg : o.guard = none) (v : Value) (w' : World) (hr : (execOp a.eval o).run P w = .ok (.value v) w') (h : wpList P ops Q rest (a.put o.dst v) w') : wpList P ops Q (o :: rest) a w :=
  wpList_plain hg fun K hK => by
    unfold Oper.wp
    rw [hr]
    exact hK _ _ h
end
/-- The document's memories, without any. -/
def mZero : Array Value := (List.replicate 256 (Value.slice none 0 0) ++ List.replicate 256 (Value.bool false)).toArray
theorem rm_zero (w : World) (P : Nat → Prop) : RM (w.alloc (.cells mZero 46)) P w.heap.size (fun _ => none) := by
  refine ⟨⟨mZero, Blk.new _ _ _, by simp [mZero], fun k hk => ⟨⟨.slice none 0 0, ?_, SlP.nil_ _ _⟩, ?_⟩⟩, fun _ _ => rfl, fun k bs h => by cases h⟩
  · have : mZero[k]? = some (.slice none 0 0) := by
      unfold mZero
      rw [List.getElem?_toArray, List.getElem?_append_left (by simp; omega), List.getElem?_replicate, if_pos hk]
    exact this
  · have : mZero[256 + k]? = some (.bool false) := by
      unfold mZero
      rw [List.getElem?_toArray, List.getElem?_append_right (by simp), List.getElem?_replicate, if_pos (by simp; omega)]
    exact this

/-- What holds at the head of a round: both hold the same. -/
def MPlaysRel (w0 : World) (B g m h : Nat) (a : Value) (wr : World) : Prop :=
  ∃ (i : Nat) (F : Int → Option (List UInt8)) (L : List Ent), a = .int .i64 i ∧ i ≤ 50 ∧ MemIs wr B g m L ∧ Small L ∧ (∀ k, has L k = F k) ∧ Off h m L ∧ RM wr (fun b => b ≠ g ∧ Off b m L) h F ∧ Below w0.heap.size w0 wr

set_option maxHeartbeats 6400000 in
theorem mplays_walk (A : Nat → Addr) (lv : Value) (x : Nat × (Nat → OpM)) (w : World) (hE : Errs w w.heap.size allErrs A) (hL : OpsM w w.heap.size lv x.1 x.2) :
    Calls Tryd.prog 5 #[lv] w fun e w' => e = .returned (.bool true) ∧ Below w.heap.size w w' := by
  obtain ⟨ln, X⟩ := x
  have HE := Lib.hid hE
  obtain ⟨⟨LA, lc, hlv, hlc, hlm, _, hLx⟩, hLs⟩ := hL
  simp only at hlv hlc hLx hLs
  subst hlv
  have HLX := Lib.hid hLx
  have HLS := Lib.hid hLs
  unfold maxLen at hlm
  clear hE hLx hLs
  go_enter Tryd.func5, Tryd.ntmps5
  go_wp2_with fail
  have hnew := mnew_any w
  obtain ⟨g, hg⟩ : ∃ g, g = w.heap.size + 1 := ⟨_, rfl⟩
  rw [← hg] at hnew
  refine hnew.mono ?_
  clear hnew hg
  rintro e w1 ⟨rfl, hm1, hb1⟩
  have HM1 := Lib.hid hm1
  have HB1 := Lib.hid hb1
  have hs1 := hb1.size
  have hg1 := hm1.box.lt
  clear hm1 hb1
  go_upto_region 2 with (fail)
  rename_i K hK
  apply wp_region_lit
  refine wpList_valM rfl (.agg mZero) w1 (by kernel_rfl) ?_
  refine wpList_valM rfl (.pointer (some ⟨w1.heap.size, 0, none⟩)) (w1.alloc (.cells mZero 46)) (by kernel_rfl) ?_
  refine wpList_valM rfl (.pointer (some ⟨w1.heap.size, 0, none⟩)) (w1.alloc (.cells mZero 46)) (by kernel_rfl) ?_
  refine wpList_nil ?_
  refine hK _ _ ?_
  clear hK
  have HR2 := Lib.hid (rm_zero w1 (fun b => b ≠ g ∧ Off b w.heap.size []))
  have hbl : Below w1.heap.size w1 (w1.alloc (.cells mZero 46)) := (Below.refl _ _).alloc (Nat.le_refl _) _
  have HM2 := Lib.hid (HM1.out.below hbl)
  have HB2 := Lib.hid (HB1.out.trans (hbl.mono hs1))
  have HOF : Hid (Off w1.heap.size w.heap.size []) := ⟨by have := HM1.out.mlt; omega, fun e he => by cases he⟩
  obtain ⟨h, hh⟩ : ∃ h, h = w1.heap.size := ⟨_, rfl⟩
  rw [← hh] at HR2 HOF hg1 hs1 ⊢
  generalize w1.alloc (.cells mZero 46) = w2 at HR2 HM2 HB2 hbl ⊢
  clear hbl hh
  have hhg : h ≠ g := by omega
  go_wp2_with fail
  go_loopw [5] (MPlaysRel w w.heap.size g w.heap.size h) (fun d _ => 50 - (intOf d).toNat)
  case atStart => exact ⟨0, fun _ => none, [], rfl, by omega, HM2.out, small_nil, fun k => rfl, HOF.out, HR2.out, HB2.out⟩
  case round =>
    obtain ⟨i, F, L, rfl, hi, hm, hS, hF, hof, hr, hb⟩ := hrel
    have hhr := hr.lt
    have HJ0 := Lib.hid (And.intro hm (And.intro hS (And.intro hF (And.intro hof (And.intro hr hb)))))
    have hsb := hb.size
    clear hm hS hF hof hr hb
    by_cases hlt : i < ln ∧ i < 50
    · obtain ⟨hl1, hl2⟩ := hlt
      obtain ⟨lb, lo, rfl, hlb, hlx⟩ := HLX.out (by omega)
      have hb := HJ0.out.2.2.2.2.2
      have hc0 : wr.cell? ⟨lb, lo + i * 5, none⟩ = some (.int .i64 (X i).K) := (hb.cell (p := ⟨lb, lo + i * 5, none⟩) hlb).trans (by have := hlx i 0 hl1 (by omega); simpa [OpM.cell] using this)
      have hc1 : wr.cell? ⟨lb, lo + i * 5 + 1, none⟩ = some (.int .i64 (X i).Y) := (hb.cell (p := ⟨lb, lo + i * 5 + 1, none⟩) hlb).trans (by have := hlx i 1 hl1 (by omega); simpa [OpM.cell, Nat.add_assoc] using this)
      have hc2 : wr.cell? ⟨lb, lo + i * 5 + 2, none⟩ = some (.int .i64 (X i).T) := (hb.cell (p := ⟨lb, lo + i * 5 + 2, none⟩) hlb).trans (by have := hlx i 2 hl1 (by omega); simpa [OpM.cell, Nat.add_assoc] using this)
      have hc3 : wr.cell? ⟨lb, lo + i * 5 + 3, none⟩ = some (.int .i64 (X i).N) := (hb.cell (p := ⟨lb, lo + i * 5 + 3, none⟩) hlb).trans (by have := hlx i 3 hl1 (by omega); simpa [OpM.cell, Nat.add_assoc] using this)
      have hc4 : wr.cell? ⟨lb, lo + i * 5 + 4, none⟩ = some (X i).V := (hb.cell (p := ⟨lb, lo + i * 5 + 4, none⟩) hlb).trans (by have := hlx i 4 hl1 (by omega); simpa [OpM.cell, Nat.add_assoc] using this)
      obtain ⟨hsl, hT, hN⟩ := HLS.out i hl1
      generalize (X i).K = kk at hc0
      generalize (X i).Y = yy at hc1
      generalize (X i).T = tt at hc2 hT
      generalize (X i).N = nn at hc3 hN
      generalize (X i).V = u at hc4 hsl
      generalize (X i).bs = ys at hsl
      have HT : Hid (-9223372036854775808 ≤ tt ∧ tt ≤ 9223372036854775807) := hT
      have HN : Hid (-9223372036854775808 ≤ nn ∧ nn ≤ 9223372036854775807) := hN
      have HV := Lib.hid hsl
      obtain ⟨_, UA, uc, huv, huc, hum, _, _⟩ := hsl
      rw [bv_length] at huv huc
      obtain ⟨z, hz⟩ : ∃ z, z = ys.length := ⟨_, rfl⟩
      rw [← hz] at huv huc
      subst huv
      have HZ := Lib.hid hz
      clear hz hlx hT hN hb
      unfold maxLen at hum
      have hj : JM w w.heap.size g w.heap.size h wr.heap.size #[.int .i64 kk, .int .i64 yy, .int .i64 tt, .int .i64 nn, .slice UA z uc] F F (wr.alloc (.cells #[.int .i64 kk, .int .i64 yy, .int .i64 tt, .int .i64 nn, .slice UA z uc] 48)) := by
        obtain ⟨q1, q2, q3, q4, q5, q6⟩ := HJ0.out
        have hbl : Below wr.heap.size wr (wr.alloc (.cells #[.int .i64 kk, .int .i64 yy, .int .i64 tt, .int .i64 nn, .slice UA z uc] 48)) := (Below.refl _ _).alloc (Nat.le_refl _) _
        exact ⟨L, q1.below hbl, q2, q3, q4, ⟨by have := q1.mlt; omega, fun e he => by have := Blk.lt (q1.row e he); omega⟩, q5.keep (hbl.block h q5.lt) (fun b hb' hP => ⟨hbl.block b hb', hP⟩) hbl.size, Blk.new _ _ _, q6.trans (hbl.mono q6.size)⟩
      have HJ := Lib.hid hj
      have hho : h ≠ wr.heap.size := by omega
      clear hj
      by_cases h2000 : 2000 < z
      · have hd1 : decide (2000 < (z : Int)) = true := by simp; omega
        go_wp2_with fail
        refine (mawake_any _).mono ?_
        rintro e w3 ⟨rfl, hb4⟩
        have HB4 := Lib.hid (HJ.out.bel.trans (hb4.mono HJ.out.bel.size))
        clear hb4
        go_wp2_with fail
        go_ret
        exact ⟨rfl, HB4.out⟩
      · have hd1 : decide (2000 < (z : Int)) = false := by simp; omega
        have hy3 : ys.length ≤ 2000 := by rw [← HZ.out]; omega
        go_wp2_with fail
        generalize (wr.alloc (Obj.cells _ _)) = wo at HJ ⊢
        generalize wr.heap.size = o at HJ hho ⊢
        refine (place_any kk 4 wo (by omega) (by omega)).mono ?_
        rintro e w0 ⟨rfl, rfl⟩
        have k1 : wo.cell? ⟨o, 1, none⟩ = some (.int .i64 yy) := HJ.out.cell 1
        have k2 : wo.cell? ⟨o, 2, none⟩ = some (.int .i64 tt) := HJ.out.cell 2
        have k3 : wo.cell? ⟨o, 3, none⟩ = some (.int .i64 nn) := HJ.out.cell 3
        have k4 : wo.cell? ⟨o, 4, none⟩ = some (.slice UA z uc) := HJ.out.cell 4
        have HJ1 := JM.hid_drew HJ
        obtain ⟨p, hp⟩ : ∃ p, p = kk % 4 := ⟨_, rfl⟩
        have hp0 : 0 ≤ p := by omega
        have hp4 : p < 4 := by omega
        rw [← hp]
        clear hp
        go_upto_block 2 with (fail)
        go_cut [7] from 36 to 107 (fun s7 wc => s7 = .bool true ∧ ∃ F', JM w w.heap.size g w.heap.size h o #[.int .i64 kk, .int .i64 yy, .int .i64 tt, .int .i64 nn, .slice UA z uc] F' F' wc)
        case rest =>
          obtain ⟨rfl, F', hj⟩ := hcut
          have HJ5 := Lib.hid hj
          have c1 : wc.cell? ⟨o, 1, none⟩ = some (.int .i64 yy) := hj.cell 1
          have c2 : wc.cell? ⟨o, 2, none⟩ = some (.int .i64 tt) := hj.cell 2
          clear hj
          go_wp2_with fail
          go_quiet (first
            | (go_at_call 18; exact Calls.quiet_of_same ((j_msize yy (Lib.hid (HJ5.out.drewN _))).mono fun e w' ⟨he, hw⟩ => ⟨he, hw.symm⟩))
            | (go_at_call 27; exact Calls.quiet_of_same ((j_rsize yy (Lib.hid (HJ5.out.drewN _))).mono fun e w' ⟨he, hw⟩ => ⟨he, hw.symm⟩))
            | (go_at_call 17; exact Calls.quiet_of_same ((j_mword yy tt HT.out (Lib.hid (HJ5.out.drewN _))).mono fun e w' ⟨he, hw⟩ => ⟨he, hw.symm⟩))
            | (go_at_call 28; exact Calls.quiet_of_same ((j_rword yy tt HT.out (Lib.hid (HJ5.out.drewN _))).mono fun e w' ⟨he, hw⟩ => ⟨he, hw.symm⟩)))
          all_goals (try go_wp2)
          go_roundw
          case rel =>
            obtain ⟨L2, j1, j2, j3, j4, j5, j6, j7, j8⟩ := HJ5.out.drewN nq
            exact ⟨i + 1, F', L2, by go_num, by omega, j1, j2, j3, j4, j6, j8⟩
          case measure => simp [intOf]; omega
        case first =>
          by_cases hc : p = 0
          · subst hc
            go_wp2_with fail
            go_region_held3 (fun w' => w'.cell? ⟨o, 1, none⟩ = some (.int .i64 yy) ∧ w'.cell? ⟨o, 3, none⟩ = some (.int .i64 nn)) (go_keep) (first
              | (go_at_call 15; refine (j_mset yy nn (by assumption) HE rfl).mono ?_; rintro e w' ⟨rfl, hj, hcell⟩; have k1' := hcell 1; have k3' := hcell 3; simp at k1' k3'; clear hcell)
              | (go_at_call 23; refine (j_mkind (by assumption) HE _ (setK_le _ _)).mono ?_; rintro e w' ⟨rfl, hj, hcell⟩; have k1' := hcell 1; have k3' := hcell 3; simp at k1' k3'; clear hcell)
              | (go_at_call 24; refine (j_rset yy nn (by assumption) rfl hhg hho hs1).mono ?_; rintro e w' ⟨rfl, hj, hcell⟩; have k1' := hcell 1; have k3' := hcell 3; simp at k1' k3'; clear hcell))
            all_goals
              have HJF : Hid (JM w w.heap.size g w.heap.size h o _ (setF F yy nn) (setF F yy nn) w') := hj
              go_wp2_with fail
              go_meet
              case rel => exact ⟨rfl, setF F yy nn, HJF.out⟩
          · by_cases hc3 : p = 3
            · subst hc3
              go_wp2_with fail
              refine (j_mread yy tt nn HN.out HJ).mono ?_
              rintro e w' ⟨v, rfl, hsl, hj, hb⟩
              have HS1 := Lib.hid hsl
              have HJ1 := Lib.hid hj
              have k1' : w'.cell? ⟨o, 1, none⟩ = some (.int .i64 yy) := hj.out.cell 1
              have k2' : w'.cell? ⟨o, 2, none⟩ = some (.int .i64 tt) := hj.out.cell 2
              have k3' : w'.cell? ⟨o, 3, none⟩ = some (.int .i64 nn) := hj.out.cell 3
              generalize hrf : readF (F yy) tt nn = rf
              have HRF := Lib.hid hrf
              clear hsl hj hb k1 k2 k3 k4 hrf
              go_wp2_with fail
              refine (j_rread yy tt nn HN.out HJ1.out).mono ?_
              rintro e w'' ⟨v2, rfl, hsl2, hj2, hb2⟩
              have cv1 := conv_str (src := 31) (dst := 9) Tryd.underlying31 Tryd.underlying5 Tryd.underlying9 ((HS1.out.out.below hb2).more hb2.size)
              have cv2 := conv_str (src := 31) (dst := 9) Tryd.underlying31 Tryd.underlying5 Tryd.underlying9 hsl2.out
              have HJ2 := Lib.hid hj2
              rw [HRF.out]
              generalize strB (readR (F yy) tt nn) = sr at cv1 cv2
              clear hsl2 hj2 hb2 k1' k2' k3'
              go_wp2_with fail
              go_meet
              case rel => exact ⟨by simp, F, HJ2.out.out⟩
            · have hn0 : (p == 0) = false := by simp; omega
              have hn3 : (p == 3) = false := by simp; omega
              clear hc hc3
              go_wp2_with fail
              go_region_held3 (fun w' => w'.cell? ⟨o, 1, none⟩ = some (.int .i64 yy) ∧ w'.cell? ⟨o, 2, none⟩ = some (.int .i64 tt) ∧ w'.cell? ⟨o, 4, none⟩ = some (.slice UA z uc)) (go_keep) (first
                | (go_at_call 21; refine (j_mbytes (by assumption) HV hy3).mono ?_; rintro e w' ⟨v, rfl, hv, hj, hcell⟩; have k1' := hcell 1; have k2' := hcell 2; have k4' := hcell 4; simp at k1' k2' k4'; clear hcell)
                | (go_at_call 16; refine (j_mwrite yy tt (by assumption) (by assumption) hy3 HE rfl).mono ?_; rintro e w' ⟨rfl, hj, hcell⟩; have k1' := hcell 1; have k2' := hcell 2; have k4' := hcell 4; simp at k1' k2' k4'; clear hcell)
                | (go_at_call 23; refine (j_mkind (by assumption) HE _ (writeK_le _ _ _)).mono ?_; rintro e w' ⟨rfl, hj, hcell⟩; have k1' := hcell 1; have k2' := hcell 2; have k4' := hcell 4; simp at k1' k2' k4'; clear hcell)
                | (go_at_call 26; refine (j_rwrite yy tt (by assumption) HV rfl hhg hho hs1).mono ?_; rintro e w' ⟨rfl, hj, hcell⟩; have k1' := hcell 1; have k2' := hcell 2; have k4' := hcell 4; simp at k1' k2' k4'; clear hcell))
              all_goals
                have HJF : Hid (JM w w.heap.size g w.heap.size h o _ (writeF F yy tt ys) (writeF F yy tt ys) w') := hj
                go_wp2_with fail
                go_meet
                case rel => exact ⟨rfl, writeF F yy tt ys, HJF.out⟩
    · have hex : ¬ i < ln ∨ (i < ln ∧ i = 50) := by omega
      clear hlt
      rcases hex with hex | ⟨hex, rfl⟩
      all_goals
        go_wp2_with fail
        refine (mawake_any wr).mono ?_
        rintro e w5 ⟨rfl, hb5⟩
        have HB5 := Lib.hid (HJ0.out.2.2.2.2.2.trans (hb5.mono HJ0.out.2.2.2.2.2.size))
        clear hb5
        go_wp2
        go_ret
        exact ⟨rfl, HB5.out⟩
end Go.Proofs.YtagjmkgbfbaekaaDoor
