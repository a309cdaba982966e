/- The walk over tableaulaw03.SigNames. -/
import Derived.Test.YtagjmkgbfbaekaaDoorSigNames
namespace Go.Proofs.YtagjmkgbfbaekaaDoor
open Go.RowKit
set_option maxRecDepth 100000

def CountRel (s : ByteArray) (a b : Value) : Prop := ∃ i : Nat, i ≤ s.size ∧ a = .int .i64 (cntN (s.data.toList.take i)) ∧ b = .int .i64 i
theorem cntN_step (s : ByteArray) (i : Nat) (h : i < s.size) : cntN (s.data.toList.take (i + 1)) = cntN (s.data.toList.take i) + if s[i] = 110 then 1 else 0 := by
  have hl : s.data.toList.length = s.size := by rw [Array.length_toList]; rfl
  rw [List.take_add_one, List.getElem?_eq_getElem (by omega)]
  unfold cntN
  rw [List.filter_append, List.length_append]
  congr 1
  have : s.data.toList[i]'(by omega) = s[i] := by rw [Array.getElem_toList]; rfl
  rw [this]
  by_cases h : s[i] = 110 <;> simp [h]

def szN (k o : Nat) : Bool := decide ((reqAt k o).1.size ≤ 65536)
theorem szN_all : ((List.range 17).all fun k => (List.range 6).all fun o => szN (k + 1) o) = true := by kernel_rfl
theorem szN_at (k o : Nat) (h1 : 1 ≤ k) (h2 : k ≤ 17) (h3 : o < 6) : (reqAt k o).1.size ≤ 65536 := by
  have h := List.all_eq_true.1 szN_all (k - 1) (List.mem_range.2 (by omega))
  have h' := List.all_eq_true.1 h o (List.mem_range.2 h3)
  have : k - 1 + 1 = k := by omega
  rw [this] at h'
  simpa [szN] using h'

set_option maxHeartbeats 6400000 in
theorem names_walk (A : Nat → Addr) (face op : Int) (w : World) (hE : Errs w w.heap.size [6] A) (_ : (Lit.int .i64 face).wf = true) (_ : (Lit.int .i64 op).wf = true) :
    Calls Tryd.prog 12 #[.int .i64 face, .int .i64 op] w fun e w' => e = .returned (.bool true) ∧ Below w.heap.size w w' := by
  have HE := Lib.hid hE
  obtain ⟨k, hk⟩ : ∃ k : Nat, (k : Int) = 1 + face % 17 := ⟨(1 + face % 17).toNat, by omega⟩
  obtain ⟨o, ho⟩ : ∃ o : Nat, (o : Int) = op % 6 := ⟨(op % 6).toNat, by omega⟩
  have hk1 : 1 ≤ k := by omega
  have hk2 : k ≤ 17 := by omega
  have ho6 : o < 6 := by omega
  obtain ⟨f1, f2, f3, f4, f5⟩ := okN_facts k o hk1 hk2 ho6
  have HFC := Lib.hid (fc_nat k (by omega))
  have HP : Hid (face % 17 = k - 1 ∧ op % 6 = o) := ⟨by omega, by omega⟩
  have HF5 := Lib.hid f5
  have HF4 := Lib.hid f4
  obtain ⟨nm, hnm⟩ : ∃ nm, nm = nameOf k := ⟨_, rfl⟩
  rw [← hnm] at f1 f2 f3
  have hnsz : nm.size ≤ 65536 := by
    rw [hnm]
    have : ∀ j, j < 18 → (nameOf j).size ≤ 65536 := by
      intro j hj
      have : ((List.range 18).all fun j => decide ((nameOf j).size ≤ 65536)) = true := by kernel_rfl
      simpa using List.all_eq_true.1 this j (List.mem_range.2 hj)
    exact this k (by omega)
  have hne := str_ne f2
  have hne2 : nm.toList.isEmpty = false := by
    rw [ByteArray.toList_eq]
    cases hl : nm.data.toList with
    | nil => exact absurd (Go.WideShapes.bytes_inj (by simpa using hl)) f2
    | cons _ _ => rfl
  have HNM := Lib.hid hnm
  have HF1 := Lib.hid f1
  have HF3 := Lib.hid f3
  clear hE hk ho f1 f2 f3 f4 f5 hnm
  go_enter Tryd.func12, Tryd.ntmps12
  go_wp2_with fail
  refine (place_any face 17 w (by omega) (by omega)).mono ?_
  rintro e w0 ⟨rfl, rfl⟩
  rw [HP.out.1]
  have hwr : IntKind.i64.wrap (1 + ((k : Int) - 1)) = k := by rw [show 1 + ((k : Int) - 1) = k by omega, IntKind.wrap_i64]; omega
  go_wp2_with fail
  refine (name_any k w).mono ?_
  rintro e w1 ⟨rfl, hb1⟩
  rw [HFC.out, ← HNM.out]
  have HB1 := Lib.hid hb1
  clear hb1 hwr
  go_wp2_with fail
  refine (face_any nm w1).mono ?_
  rintro e w2 ⟨rfl, hb2⟩
  rw [HF1.out]
  have HB2 := Lib.hid (HB1.out.trans (hb2.mono HB1.out.size))
  clear hb2
  go_wp2_with fail
  refine (name_any k w2).mono ?_
  rintro e w3 ⟨rfl, hb3⟩
  rw [HFC.out, ← HNM.out]
  have HB3 := Lib.hid (HB2.out.trans (hb3.mono HB2.out.size))
  clear hb3
  go_wp2_with fail
  refine (name_any k w3).mono ?_
  rintro e w4 ⟨rfl, hb4⟩
  rw [HFC.out, ← HNM.out]
  have HB4 := Lib.hid (HB3.out.trans (hb4.mono HB3.out.size))
  clear hb4
  go_wp2_with fail
  refine (face_any _ w4).mono ?_
  rintro e w5 ⟨rfl, hb5⟩
  rw [HF3.out]
  have HB5 := Lib.hid (HB4.out.trans (hb5.mono HB4.out.size))
  clear hb5
  go_wp2_with fail
  refine (place_any op 6 w5 (by omega) (by omega)).mono ?_
  rintro e w0 ⟨rfl, rfl⟩
  rw [HP.out.2]
  go_wp2_with fail
  refine (request_any A [6] (by simp) k o w5 (HE.out.to HB5.out HB5.out.size)).mono ?_
  rintro e w6 ⟨rfl, hb6⟩
  have HB6 := Lib.hid (HB5.out.trans (hb6.mono HB5.out.size))
  clear hb6 hne hne2 hnsz
  obtain ⟨rs, hrs⟩ : ∃ rs, rs = (reqAt k o).1 := ⟨_, rfl⟩
  obtain ⟨rm, hrm⟩ : ∃ rm, rm = (reqAt k o).2.1 := ⟨_, rfl⟩
  obtain ⟨re, hre⟩ : ∃ re, re = (reqAt k o).2.2 := ⟨_, rfl⟩
  rw [← hrs]
  rw [← hrs, ← hrm, ← hre] at HF4 HF5
  have HRS := Lib.hid hrs
  have HRM := Lib.hid hrm
  have HRE := Lib.hid hre
  clear hrs hrm hre
  rcases hq : reqOk k o
  · obtain ⟨g1, g2, g3⟩ := HF4.out hq
    have herr : reqErr k o = 6 := by simp [reqErr, hq]
    rw [herr, errV_pos A (by omega)]
    subst g1
    have HG := Lib.hid (And.intro g2 g3)
    clear hq herr g2 g3 HF4 HF5
    go_wp2_with fail
    refine (makes_any k o w6).mono ?_
    rintro e w7 ⟨rfl, hb7⟩
    rw [← HRM.out, HG.out.1]
    have HB7 := Lib.hid (HB6.out.trans (hb7.mono HB6.out.size))
    clear hb7
    go_wp2_with fail
    refine (ends_any k o w7).mono ?_
    rintro e w8 ⟨rfl, hb8⟩
    rw [← HRE.out, HG.out.2]
    have HB8 := Lib.hid (HB7.out.trans (hb8.mono HB7.out.size))
    clear hb8
    go_wp2_with fail
    refine (sawake_any A [6] (by simp) w8 (HE.out.to HB8.out HB8.out.size)).mono ?_
    rintro e w9 ⟨rfl, hb9⟩
    have HB9 := Lib.hid (HB8.out.trans (hb9.mono HB8.out.size))
    clear hb9
    go_wp2
    go_ret
    exact ⟨rfl, HB9.out⟩
  · obtain ⟨g1, g2, g3⟩ := HF5.out hq
    have herr : reqErr k o = 0 := by simp [reqErr, hq]
    rw [herr, errV_zero]
    have HG := Lib.hid (And.intro g1 (And.intro g2 g3))
    have hl : rs.data.toList.length = rs.size := by rw [Array.length_toList]; rfl
    have HL := Lib.hid hl
    have hrsz : rs.size ≤ 65536 := by rw [HRS.out]; exact szN_at k o hk1 hk2 ho6
    clear hq herr g1 g2 g3 HF4 HF5 hl
    go_wp2_with fail
    go_loop [9, 10] (CountRel rs) (fun _ b => rs.size - (intOf b).toNat)
    case atStart => exact ⟨0, Nat.zero_le _, rfl, rfl⟩
    case round =>
      obtain ⟨i, hi, rfl, rfl⟩ := hrel
      by_cases hlt : i < rs.size
      · have hst := cntN_step rs i hlt
        obtain ⟨c, hc⟩ : ∃ c, c = cntN (rs.data.toList.take i) := ⟨_, rfl⟩
        have hcb : c ≤ i := by rw [hc]; unfold cntN; exact Nat.le_trans (List.length_filter_le _ _) (by simp; omega)
        rw [← hc] at hst ⊢
        by_cases hn : rs[i] = 110
        · have hqq : (((rs[i].toNat : Nat) : Int) == 110) = true := by rw [hn]; rfl
          have HST := Lib.hid (show cntN (rs.data.toList.take (i + 1)) = c + 1 by rw [hst, if_pos hn])
          clear hst hn hc
          go_wp2_with fail
          go_round
          case rel => exact ⟨i + 1, by omega, by rw [HST.out]; go_num, by go_num⟩
          case measure => simp [intOf]; omega
        · have hqq : (((rs[i].toNat : Nat) : Int) == 110) = false := by
            rw [beq_eq_false_iff_ne]
            intro h
            exact hn (UInt8.toNat_inj.1 (by have h' : ((rs[i].toNat : Nat) : Int) = 110 := h; show rs[i].toNat = 110; omega))
          have HST := Lib.hid (show cntN (rs.data.toList.take (i + 1)) = c by rw [hst, if_neg hn]; rfl)
          clear hst hn hc
          go_wp2_with fail
          go_round
          case rel => exact ⟨i + 1, by omega, by rw [HST.out], by go_num⟩
          case measure => simp [intOf]; omega
      · obtain ⟨c, hc⟩ : ∃ c, c = cntN (rs.data.toList.take i) := ⟨_, rfl⟩
        have hfull : rs.data.toList.take i = rs.data.toList := List.take_of_length_le (by rw [HL.out]; omega)
        have hc2 : c = cntN rs.data.toList := by rw [hc, hfull]
        rw [← hc]
        obtain ⟨g1, g2, g3⟩ := HG.out
        rw [← hc2] at g2 g3
        clear hc hfull hc2 HG
        have hemp : rs = ⟨#[]⟩ → rs.toList.isEmpty = true := fun e => by rw [e, ByteArray.toList_eq]; rfl
        have hA : (re = false) ∨ (re = true ∧ rs.toList.isEmpty = true ∧ o = 0) ∨ (re = true ∧ rs.toList.isEmpty = true ∧ k = 6 ∧ o = 1) ∨ (re = true ∧ rs.toList.isEmpty = false ∧ k = 6 ∧ o = 1) := by
          rcases re
          · exact .inl rfl
          · rcases g1 with g1 | ⟨g1, g1'⟩ | ⟨g1, g1'⟩
            · cases g1
            · exact .inr (.inl ⟨rfl, hemp g1, g1'⟩)
            · rcases h : rs.toList.isEmpty
              · exact .inr (.inr (.inr ⟨rfl, rfl, g1, g1'⟩))
              · exact .inr (.inr (.inl ⟨rfl, rfl, g1, g1'⟩))
        have hB : (c = 1 ∧ k ≠ 2 ∧ 0 < rm) ∨ (c = 1 ∧ k = 2 ∧ ¬ 0 < rm) ∨ (c = 0 ∧ ¬ 0 < rm) := by
          by_cases h1 : c = 1
          · by_cases h2 : k = 2
            · exact .inr (.inl ⟨h1, h2, fun h => (g2.1 h).2 h2⟩)
            · exact .inl ⟨h1, h2, g2.2 ⟨h1, h2⟩⟩
          · exact .inr (.inr ⟨by omega, fun h => h1 (g2.1 h).1⟩)
        clear g1 g2 g3 hemp
        have HENDS : Hid (∀ w, Calls Tryd.prog 45 #[.int .i64 k, .int .i64 o] w fun e w' => e = .returned (.bool re) ∧ Below w.heap.size w w') := fun w => by rw [HRE.out]; exact ends_any k o w
        have HMAKES : Hid (∀ w, Calls Tryd.prog 44 #[.int .i64 k, .int .i64 o] w fun e w' => e = .returned (.int .i64 rm) ∧ Below w.heap.size w w') := fun w => by rw [HRM.out]; exact makes_any k o w
        clear HRE HRM HRS
        rcases hA with rfl | ⟨rfl, hA, rfl⟩ | ⟨rfl, hA, rfl, rfl⟩ | ⟨rfl, hA, rfl, rfl⟩ <;> rcases hB with ⟨rfl, h2, h3⟩ | ⟨rfl, h2, h3⟩ | ⟨rfl, h3⟩
        all_goals (try (exfalso; omega))
        all_goals (try (have hk2' : ((k : Int) == 2) = false := by rw [beq_eq_false_iff_ne]; omega))
        all_goals (try subst h2)
        all_goals (try (have hd0 : decide (0 < rm) = false := by simpa using h3))
        all_goals (try (have hk3' : ((k : Int) != 2) = true := by rw [bne_iff_ne]; omega))
        all_goals
          go_wp2_with fail
          refine (HENDS.out w6).mono ?_
          rintro e w7 ⟨rfl, hb7⟩
          have HB7 := Lib.hid (HB6.out.trans (hb7.mono HB6.out.size))
          clear hb7
          go_wp2_with fail
          refine (HMAKES.out w7).mono ?_
          rintro e w8 ⟨rfl, hb8⟩
          have HB8 := Lib.hid (HB7.out.trans (hb8.mono HB7.out.size))
          clear hb8
          go_wp2_with fail
          refine (sawake_any A [6] (by simp) w8 (HE.out.to HB8.out HB8.out.size)).mono ?_
          rintro e w9 ⟨rfl, hb9⟩
          have HB9 := Lib.hid (HB8.out.trans (hb9.mono HB8.out.size))
          clear hb9
          go_wp2
          go_ret
          exact ⟨rfl, HB9.out⟩
end Go.Proofs.YtagjmkgbfbaekaaDoor
