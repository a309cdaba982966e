/- The walk over tableaulaw04.WireBack. -/
import Derived.Test.YtihbgkighckiiaaDoorPutGetL
import Derived.Test.YtihbgkighckiiaaDoorGet
import Derived.Test.YtihbgkighckiiaaDoorFew
import Derived.Test.YtihbgkighckiiaaDoorWOpen
import Derived.Test.YtihbgkighckiiaaDoorWAwake
import Derived.Deep.CutBlock
import Derived.Deep.CutRange
namespace Go.Proofs.YtihbgkighckiiaaDoor
open Go.RowKit
set_option maxRecDepth 100000
set_option linter.unusedVariables false

theorem SlN.tail_ {w : World} {B n c k : Nat} {b off : Nat} {xs : List Value} (h : SlN w B 1 (.slice (some ⟨b, off, none⟩) n c) n xs) (hk : k ≤ n) : SlN w B 1 (.slice (some ⟨b, off + k, none⟩) (n - k) (c - k)) (n - k) (xs.drop k) := SlN.drop_ h hk
theorem sl_zero {w : World} {B n c : Nat} {a : Addr} (hn : n = 0) (hc : c ≤ maxLen) : SlN w B 1 (.slice (some a) n c) n (bv []) := by
  subst hn
  exact ⟨rfl, _, _, rfl, Nat.zero_le _, hc, (fun h => by cases h), fun h => absurd h (Nat.lt_irrefl _)⟩
theorem mgetL_length {o p : Int} {bs : List UInt8} {sig : ByteArray} : (mgetL o p bs sig).length ≤ sig.size := by
  unfold mgetL
  split
  · rename_i h
    have h1 : (getArgs bs sig.data.toList 0).1 = 0 := by unfold mgetE at h; split at h; omega; omega
    have := getArgs_length bs sig.data.toList 0 h1
    rw [this, str_len2]; omega
  · simp
theorem mgetL_fit {o p : Int} {bs : List UInt8} {sig : ByteArray} : Fit (mgetL o p bs sig) := by
  unfold mgetL
  split
  · exact getArgs_fit bs _ _
  · intro x hx; simp at hx
def BackOk (l : List ArgD) (sig body : ByteArray) (rp : Int) : Prop := FewOk l sig ∧ body.size ≤ 4000 ∧ 0 ≤ rp ∧ rp ≤ 65535
def BackRel (w : World) (l : List ArgD) (sig body : ByteArray) (rp : Int) (s : Value) (wc : World) : Prop := ∃ c, s = .bool c ∧ (c = false → BackOk l sig body rp) ∧ Below w.heap.size w wc
set_option maxHeartbeats 800000 in
theorem wback_walk (A : Nat → Addr) (mv : Value) (x : Int × Int × Value × List ArgD) (sig : ByteArray) (rv : Value) (y : Int × Int × ByteArray) (w : World) (hE : Errs w w.heap.size [1, 2, 3, 4] A) (hm : mv = .agg #[.int .i64 x.1, .int .i64 x.2.1, x.2.2.1] ∧ ArgsIs w x.2.2.1 x.2.2.2) (hsz : sig.size ≤ 140737488351232)
    (hr : rv = .agg #[.int .i64 y.1, .int .i64 y.2.1, .string y.2.2]) :
    Calls Tryd.prog 8 #[mv, .string sig, rv] w fun e w' => e = .returned (.bool true) ∧ Below w.heap.size w w' := by
  obtain ⟨o, p, va, l⟩ := x
  obtain ⟨ro, rp, body⟩ := y
  obtain ⟨rfl, hargs⟩ := hm
  subst hr
  simp only at hargs ⊢
  have HE := Lib.hid hE
  have H1 : (1 : Nat) ∈ [1, 2, 3, 4] := by simp
  have H2 : (2 : Nat) ∈ [1, 2, 3, 4] := by simp
  have H3 : (3 : Nat) ∈ [1, 2, 3, 4] := by simp
  have H4 : (4 : Nat) ∈ [1, 2, 3, 4] := by simp
  have HAR := Lib.hid hargs
  obtain ⟨_, Va, vc, rfl, _⟩ := hargs
  obtain ⟨nl, hnl⟩ : ∃ nl, nl = l.length := ⟨_, rfl⟩
  rw [← hnl] at HAR ⊢
  have HNL := Lib.hid hnl
  have hb1 : Below w.heap.size w ((w.alloc (.cells #[.int .i64 o, .int .i64 p, .slice Va nl vc] 29)).alloc (.cells #[.int .i64 ro, .int .i64 rp, .string body] 50)) := ((Below.refl _ _).alloc (Nat.le_refl _) _).alloc (by simp) _
  have hk1 : Blk ((w.alloc (.cells #[.int .i64 o, .int .i64 p, .slice Va nl vc] 29)).alloc (.cells #[.int .i64 ro, .int .i64 rp, .string body] 50)) w.heap.size 29 #[.int .i64 o, .int .i64 p, .slice Va nl vc] := (Blk.new _ _ _).alloc _
  have hr1 : Blk ((w.alloc (.cells #[.int .i64 o, .int .i64 p, .slice Va nl vc] 29)).alloc (.cells #[.int .i64 ro, .int .i64 rp, .string body] 50)) (w.heap.size + 1) 50 #[.int .i64 ro, .int .i64 rp, .string body] := by
    have := Blk.new (w.alloc (.cells #[.int .i64 o, .int .i64 p, .slice Va nl vc] 29)) 50 #[.int .i64 ro, .int .i64 rp, .string body]
    rwa [World.size_alloc] at this
  have HB1 := Lib.hid hb1
  have HK1 := Lib.hid hk1
  have HR1 := Lib.hid hr1
  clear hE hnl hb1 hk1 hr1 hsz
  go_enter Tryd.func8, Tryd.ntmps8
  go_upto_region 1 with (fail)
  obtain ⟨g, hg⟩ : ∃ g, g = w.heap.size := ⟨_, rfl⟩
  rw [← hg] at HK1 HR1 ⊢
  clear hg
  generalize (w.alloc (.cells #[.int .i64 o, .int .i64 p, .slice Va nl vc] 29)).alloc (.cells #[.int .i64 ro, .int .i64 rp, .string body] 50) = w1 at HB1 HK1 HR1 ⊢
  have c0 : w1.cell? ⟨g, 0, none⟩ = some (.int .i64 o) := HK1.out.cell 0
  have c1 : w1.cell? ⟨g, 1, none⟩ = some (.int .i64 p) := HK1.out.cell 1
  have c2 : w1.cell? ⟨g, 2, none⟩ = some (.slice Va nl vc) := HK1.out.cell 2
  have HA1 := Lib.hid (HAR.out.below HB1.out)
  go_cut [38] from 19 to 38 (fun s38 wc => BackRel w1 l sig body rp s38 wc)
  case first =>
    go_wp2_with fail
    refine (few_any o p _ l sig w1 HA1.out).mono ?_
    rintro e w2 ⟨b, rfl, hfew, hb2⟩
    have HR2 := Lib.hid (HR1.out.below hb2 HR1.out.lt)
    have r1 : w2.cell? ⟨g + 1, 1, none⟩ = some (.int .i64 rp) := HR2.out.cell 1
    have r2 : w2.cell? ⟨g + 1, 2, none⟩ = some (.string body) := HR2.out.cell 2
    have HB2 := Lib.hid hb2
    have HFEW := Lib.hid hfew
    clear hb2 hfew c0 c1 c2
    cases b with
    | false =>
      go_wp2_with fail
      go_meet
      exact ⟨true, rfl, (fun h => by cases h), HB2.out⟩
    | true =>
      by_cases q1 : 4000 < body.size
      · have d1 : decide (4000 < (body.size : Int)) = true := by simp; omega
        go_wp2_with fail
        go_meet
        exact ⟨true, rfl, (fun h => by cases h), HB2.out⟩
      · have d1 : decide (4000 < (body.size : Int)) = false := by simp; omega
        have q1' : body.size ≤ 4000 := by omega
        have HQ1 := Lib.hid q1'
        clear q1 q1'
        by_cases q2 : rp < 0
        · go_wp2_with fail
          go_meet
          exact ⟨true, rfl, (fun h => by cases h), HB2.out⟩
        · by_cases q3 : 65535 < rp
          · go_wp2_with fail
            go_meet
            exact ⟨true, rfl, (fun h => by cases h), HB2.out⟩
          · have d2 : decide (rp < 0) = false := by simp; omega
            have d3 : decide (65535 < rp) = false := by simp; omega
            have HOK : Hid (BackOk l sig body rp) := ⟨HFEW.out rfl, HQ1.out, by omega, by omega⟩
            go_wp2_with fail
            go_meet
            exact ⟨false, rfl, fun _ => HOK.out, HB2.out⟩
  case rest =>
    obtain ⟨b, rfl, hok, hb2⟩ := hcut
    have HB2 := Lib.hid (HB1.out.trans (hb2.mono HB1.out.size))
    have HK2 := Lib.hid (HK1.out.below hb2 HK1.out.lt)
    have HR2 := Lib.hid (HR1.out.below hb2 HR1.out.lt)
    have HA2 := Lib.hid (HA1.out.below hb2)
    have HOK := Lib.hid hok
    clear hb2 hok c0 c1 c2
    cases b with
    | true =>
      go_wp2_with fail
      refine (w4awake_any A [1, 2, 3, 4] H1 H4 wc (HE.out.to HB2.out HB2.out.size)).mono ?_
      rintro e w3 ⟨rfl, hb3⟩
      go_wp2
      go_ret
      exact ⟨rfl, HB2.out.trans (hb3.mono HB2.out.size)⟩
    | false =>
      obtain ⟨⟨hl30, hs30, hx60⟩, hbody, hrp0, hrp1⟩ := HOK.out rfl
      have HFIT : Hid (Fit l) := fun x hx => by have := hx60 x hx; omega
      have HSIG : Hid (sig.size ≤ 60000) := by show _ ≤ _; omega
      have HBODY := Lib.hid hbody
      have c0 : wc.cell? ⟨g, 0, none⟩ = some (.int .i64 o) := HK2.out.cell 0
      have c1 : wc.cell? ⟨g, 1, none⟩ = some (.int .i64 p) := HK2.out.cell 1
      have c2 : wc.cell? ⟨g, 2, none⟩ = some (.slice Va nl vc) := HK2.out.cell 2
      clear hx60 hbody
      go_wp2_with fail
      refine (msg_any o p _ l wc HA2.out (by omega)).mono ?_
      rintro e w3 ⟨v', rfl, ha3, hb3⟩
      have HB3 := Lib.hid (HB2.out.trans (hb3.mono HB2.out.size))
      have HK3 := Lib.hid (HK2.out.below hb3 HK2.out.lt)
      have HR3 := Lib.hid (HR2.out.below hb3 HR2.out.lt)
      have HAO3 := Lib.hid (HA2.out.below hb3)
      have HA3 := Lib.hid ha3
      clear ha3 hb3 c0 c1 c2
      go_wp2_with fail
      refine (wput_any A [1, 2, 3, 4] H1 H4 o p v' l sig w3 (HE.out.to HB3.out HB3.out.size) HA3.out HFIT.out (by omega) (by omega)).mono ?_
      rintro e w4 ⟨v7, rfl, hs4, hb4⟩
      have HB4 := Lib.hid (HB3.out.trans (hb4.mono HB3.out.size))
      have HK4 := Lib.hid (HK3.out.below hb4 HK3.out.lt)
      have HR4 := Lib.hid (HR3.out.below hb4 HR3.out.lt)
      have HA4 := Lib.hid (HAO3.out.below hb4)
      have HS4 := Lib.hid hs4
      obtain ⟨_, A7, c7, rfl, hc7, hm7, _, hx7⟩ := hs4
      rw [bv_length] at hc7 hx7 ⊢
      obtain ⟨N, hN⟩ : ∃ N, N = (putR o p l sig).length := ⟨_, rfl⟩
      rw [← hN] at hc7 hx7 ⊢
      have HN := Lib.hid hN
      have HX7 := Lib.hid hx7
      obtain ⟨q, hq⟩ : ∃ q, q = putE o p l sig := ⟨_, rfl⟩
      rw [← hq]
      have HQ := Lib.hid hq
      have HEX := Lib.hid (HE.out.to HB4.out HB4.out.size)
      unfold maxLen at hm7
      clear hb4 hq hN hx7
      go_upto_region 4 with (fail)
      obtain ⟨b48, hb48⟩ : ∃ b, b = decide (q = 0) := ⟨_, rfl⟩
      go_cut [8, 40, 44, 46, 48] from 47 to 48 (fun s8 _ _ _ s48 wc => w4 = wc ∧ s8 = errV A q ∧ s48 = .bool (decide (q = 0)))
      case first =>
        by_cases hq0 : q = 0
        · subst hq0
          rw [errV_zero]
          go_wp2_with fail
          go_meet
          exact ⟨rfl, rfl, rfl⟩
        · rw [errV_pos A (Nat.pos_of_ne_zero hq0)]
          have HQ0 := Lib.hid hq0
          clear hq0 hb48
          go_wp2_with fail
          go_meet
          exact ⟨rfl, (errV_pos A (Nat.pos_of_ne_zero HQ0.out)).symm, by rw [decide_eq_false HQ0.out]⟩
      case rest =>
      obtain ⟨rfl, rfl, rfl⟩ := hcut
      clear hb48
      go_upto_if 48 with (fail)
      go_cut [8] from 40 to 99 (fun _ wc => Below w4.heap.size w4 wc)
      case first =>
        by_cases hq0 : q = 0
        · rw [decide_eq_true hq0]
          subst hq0
          have hpb := put_back HQ.out.symm
          have hR : putR o p l sig = putB o p l := by unfold putR; rw [if_pos HQ.out.symm]
          have hN8 : 8 ≤ N := by rw [HN.out, hR]; exact hpb.1
          have hNB : N = (bodyB l).length + 8 := by rw [HN.out, hR]; exact hpb.2.2.1
          have hsmall := put_small HQ.out.symm
          rw [← hNB] at hsmall
          rw [hR] at HS4 HN
          have HPB := Lib.hid hpb
          have HNB := Lib.hid hNB
          clear hpb hR hNB
          obtain ⟨b7, o7, hA7, hb7, _⟩ := HX7.out (by omega)
          subst hA7
          have c0 : w4.cell? ⟨g, 0, none⟩ = some (.int .i64 o) := HK4.out.cell 0
          have HS4' : Hid (Sl w4 w4.heap.size (.slice (some ⟨b7, o7, none⟩) N c7) (bv (putB o p l))) := by have := HS4.out; rw [bv_length, ← HN.out] at this; exact this
          clear HX7
          go_wp2_with fail
          refine (head_any A [1, 2, 3, 4] _ (putB o p l) w4 HS4'.out HEX.out H2 H3 H4).mono ?_
          rintro e w5 ⟨rfl, hb5⟩
          rw [HPB.out.2.2.2.1, HPB.out.2.2.2.2.1, HPB.out.2.2.2.2.2.1, HPB.out.2.2.2.2.2.2.1, ← HN.out, errV_zero]
          have HK5 := Lib.hid (HK4.out.below hb5 HK4.out.lt)
          have HA5 := Lib.hid (HA4.out.below hb5)
          have HS5 := Lib.hid ((HS4'.out.below hb5).more hb5.size)
          have HE5 := Lib.hid (HEX.out.to hb5 hb5.size)
          have HB5 := Lib.hid hb5
          have e0 : w5.cell? ⟨g, 0, none⟩ = some (.int .i64 o) := HK5.out.cell 0
          have e1 : w5.cell? ⟨g, 1, none⟩ = some (.int .i64 p) := HK5.out.cell 1
          have d8 : decide ((N : Int) < 8) = false := by simp; omega
          obtain ⟨S8, hS8⟩ : ∃ S8, S8 = strB (bodyB l) := ⟨_, rfl⟩
          have HS8 : Hid (S8.data.toList = bodyB l) := by show _ = _; rw [hS8, strB_toList]
          have HS8z : Hid (S8.size ≤ 1000000) := by show _ ≤ _; rw [hS8, strB_size]; have := HNB.out; omega
          have hs5 : SlN w5 w5.heap.size 1 (.slice (some ⟨b7, o7, none⟩) N c7) N (bv (putB o p l)) := by have := HS5.out; unfold Sl at this; rw [bv_length, ← HN.out] at this; exact this
          have htl := SlN.tail_ hs5 hN8
          rw [← bv_drop, HPB.out.2.1] at htl
          have hcvs : ∃ A8, (c7 = 8 ∧ A8 = some ⟨b7, o7, none⟩ ∨ ¬ c7 = 8 ∧ A8 = some ⟨b7, o7 + 8, none⟩) ∧ (convert 30 9 (.slice A8 (N - 8) (c7 - 8))).run Tryd.prog w5 = .ok (.string S8) w5 := by
            by_cases h8 : c7 = 8
            · have hz : bodyB l = [] := List.eq_nil_of_length_eq_zero (by have := HNB.out; omega)
              refine ⟨some ⟨b7, o7, none⟩, .inl ⟨h8, rfl⟩, ?_⟩
              rw [hS8, hz]
              exact conv_str (B := 0) Tryd.underlying30 Tryd.underlying5 Tryd.underlying9 (sl_zero (by omega) (by unfold maxLen; omega))
            · refine ⟨some ⟨b7, o7 + 8, none⟩, .inr ⟨h8, rfl⟩, ?_⟩
              rw [hS8]
              exact conv_str Tryd.underlying30 Tryd.underlying5 Tryd.underlying9 htl
          have HCV := Lib.hid hcvs
          clear hb5 hS8 hs5 htl hcvs c0
          obtain ⟨A8, ⟨h8, rfl⟩ | ⟨h8, rfl⟩, hcv⟩ := HCV.out
          all_goals
            first
              | (have hN0 : N = 8 := by omega
                 have hNN := Lib.hid hN0
                 subst hN0
                 subst h8
                 simp only [Nat.sub_self] at hcv)
              | skip
            go_wp2_with fail
            refine (wget_any A [1, 2, 3, 4] H1 H2 H3 H4 o p S8 sig _ HS8.out w5 HE5.out HS8z.out HSIG.out).mono ?_
            rintro e w6 ⟨vv, rfl, hown, hb6⟩
            rw [HPB.out.2.2.2.2.2.2.2.1, HPB.out.2.2.2.2.2.2.2.2.1] at *
            rw [if_pos rfl, if_pos rfl, errV_zero]
            have HK6 := Lib.hid (HK5.out.below hb6 HK5.out.lt)
            have HA6 := Lib.hid (HA5.out.below hb6)
            have HOW := Lib.hid hown
            have HB6 := Lib.hid (HB5.out.trans (hb6.mono HB5.out.size))
            obtain ⟨A9, c9, rfl⟩ := own_slice' hown
            have f0 : w6.cell? ⟨g, 0, none⟩ = some (.int .i64 o) := HK6.out.cell 0
            have f1 : w6.cell? ⟨g, 1, none⟩ = some (.int .i64 p) := HK6.out.cell 1
            have f2 : w6.cell? ⟨g, 2, none⟩ = some (.slice Va nl vc) := HK6.out.cell 2
            have flt : g < w6.heap.size := HK6.out.lt
            have hb7' : Below w6.heap.size w6 (w6.alloc (.cells #[.int .i64 o, .int .i64 p, .slice A9 l.length c9] 29)) := (Below.refl _ _).alloc (Nat.le_refl _) _
            have HA7 := Lib.hid (HA6.out.below hb7')
            have HO7 : Hid (ArgsIs (w6.alloc (.cells #[.int .i64 o, .int .i64 p, .slice A9 l.length c9] 29)) (.slice A9 l.length c9) l) := ArgsIs.below (SlN.of_own HOW.out) hb7'
            have HB7 := Lib.hid (HB6.out.trans (hb7'.mono HB6.out.size))
            clear hown hb6 hb7'
            go_wp2_with fail
            refine (same_msg o p _ _ l _ HO7.out (by have := HA7.out; exact this)).mono ?_
            rintro e w8 ⟨rfl, hb8⟩
            have HB8 := Lib.hid (HB7.out.trans (hb8.mono HB7.out.size))
            clear hb8
            go_wp2_with fail
            go_meet
            exact HB8.out
        · rw [decide_eq_false hq0]
          go_wp2_with fail
          go_meet
          exact Below.refl _ _
      case rest =>
        have HBc := Lib.hid (HB4.out.trans (hcut.mono HB4.out.size))
        have HRc := Lib.hid (HR4.out.below hcut HR4.out.lt)
        have HEc := Lib.hid (HEX.out.to hcut hcut.size)
        obtain ⟨bs, HBS⟩ : ∃ bs, Hid (body.data.toList = bs) := ⟨_, rfl⟩
        have hbl : bs.length ≤ 4000 := by rw [← HBS.out, str_len2]; exact HBODY.out
        have HBL := Lib.hid hbl
        have r0 : wc.cell? ⟨g + 1, 0, none⟩ = some (.int .i64 ro) := HRc.out.cell 0
        have r1 : wc.cell? ⟨g + 1, 1, none⟩ = some (.int .i64 rp) := HRc.out.cell 1
        have r2 : wc.cell? ⟨g + 1, 2, none⟩ = some (.string body) := HRc.out.cell 2
        clear hcut hbl HS4 HX7
        go_wp2_with fail
        refine (wget_any A [1, 2, 3, 4] H1 H2 H3 H4 ro rp body sig bs HBS.out wc HEc.out (by have := HBODY.out; omega) HSIG.out).mono ?_
        rintro e w6 ⟨vv, rfl, hown, hb6⟩
        have HR6 := Lib.hid (HRc.out.below hb6 HRc.out.lt)
        have HOW := Lib.hid hown
        have HB6 := Lib.hid (HBc.out.trans (hb6.mono HBc.out.size))
        obtain ⟨A9, c9, rfl⟩ := own_slice' hown
        obtain ⟨q2, hq2⟩ : ∃ q2, q2 = mgetE ro rp bs sig := ⟨_, rfl⟩
        rw [← hq2]
        have HQ2 := Lib.hid hq2
        clear hown hb6 hq2 r0 r1 r2
        by_cases hz : q2 = 0
        · subst hz
          rw [if_pos rfl, if_pos rfl, errV_zero]
          obtain ⟨gb1, gb2, gb3⟩ := get_back HQ2.out.symm HBL.out
          obtain ⟨L, hL⟩ : ∃ L, L = mgetL ro rp bs sig := ⟨_, rfl⟩
          have hLl : L.length ≤ 30 := by rw [hL]; exact Nat.le_trans mgetL_length hs30
          have HLF : Hid (Fit L) := by rw [hL]; exact mgetL_fit
          rw [← hL] at HOW gb1 gb2 gb3 ⊢
          have HG1 := Lib.hid gb1
          have HG2 := Lib.hid gb2
          have HG3 := Lib.hid gb3
          have flt : g + 1 < w6.heap.size := HR6.out.lt
          have hb7' : Below w6.heap.size w6 (w6.alloc (.cells #[.int .i64 ro, .int .i64 rp, .slice A9 L.length c9] 29)) := (Below.refl _ _).alloc (Nat.le_refl _) _
          have HO7 : Hid (ArgsIs (w6.alloc (.cells #[.int .i64 ro, .int .i64 rp, .slice A9 L.length c9] 29)) (.slice A9 L.length c9) L) := ArgsIs.below (SlN.of_own HOW.out) hb7'
          have HB7 := Lib.hid (HB6.out.trans (hb7'.mono HB6.out.size))
          have HR7 := Lib.hid (HR6.out.below hb7' HR6.out.lt)
          clear hL gb1 gb2 gb3 hb7'
          go_wp2_with fail
          refine (wput_any A [1, 2, 3, 4] H1 H4 ro rp _ L sig _ (HE.out.to HB7.out HB7.out.size) HO7.out HLF.out (by omega) (by omega)).mono ?_
          rintro e w8 ⟨v17, rfl, hs8, hb8⟩
          rw [HG1.out, errV_zero]
          have HR8 := Lib.hid (HR7.out.below hb8 HR7.out.lt)
          have HB8 := Lib.hid (HB7.out.trans (hb8.mono HB7.out.size))
          have HS8 := Lib.hid hs8
          obtain ⟨_, A17, c17, rfl, hc17, hm17, _, hx17⟩ := hs8
          rw [bv_length] at hc17 hx17 ⊢
          obtain ⟨M, hM⟩ : ∃ M, M = (putR ro rp L sig).length := ⟨_, rfl⟩
          rw [← hM] at hc17 hx17 ⊢
          have hM8 : 8 ≤ M := by rw [hM]; exact HG3.out
          have HM := Lib.hid hM
          obtain ⟨b7, o7, hA7, _, _⟩ := hx17 (by omega)
          subst hA7
          have r2 : w8.cell? ⟨g + 1, 2, none⟩ = some (.string body) := HR8.out.cell 2
          have d8 : decide ((M : Int) < 8) = false := by simp; omega
          unfold maxLen at hm17
          have hs8 : SlN w8 w8.heap.size 1 (.slice (some ⟨b7, o7, none⟩) M c17) M (bv (putR ro rp L sig)) := by have := HS8.out; unfold Sl at this; rw [bv_length, ← HM.out] at this; exact this
          have htl := SlN.tail_ hs8 hM8
          rw [← bv_drop, HG2.out] at htl
          have hbody2 : strB bs = body := by rw [← HBS.out, str_eq]
          have hcvs : ∃ A8, (c17 = 8 ∧ A8 = some ⟨b7, o7, none⟩ ∨ ¬ c17 = 8 ∧ A8 = some ⟨b7, o7 + 8, none⟩) ∧ ∀ n, (convert 30 9 (.slice A8 (M - 8) (c17 - 8))).run Tryd.prog (w8.drewN n) = .ok (.string body) (w8.drewN n) := by
            by_cases h8 : c17 = 8
            · have hz : bs = [] := List.eq_nil_of_length_eq_zero (by rw [← HG2.out, List.length_drop, ← HM.out]; omega)
              refine ⟨some ⟨b7, o7, none⟩, .inl ⟨h8, rfl⟩, fun n => ?_⟩
              rw [← hbody2, hz]
              exact conv_str (B := 0) Tryd.underlying30 Tryd.underlying5 Tryd.underlying9 (sl_zero (by omega) (by unfold maxLen; omega))
            · refine ⟨some ⟨b7, o7 + 8, none⟩, .inr ⟨h8, rfl⟩, fun n => ?_⟩
              rw [← hbody2]
              exact conv_str Tryd.underlying30 Tryd.underlying5 Tryd.underlying9 (show SlN (w8.drewN n) w8.heap.size 1 _ _ _ from htl)
          have HCV := Lib.hid hcvs
          clear hb8 hs8 htl hcvs hx17 hM hbody2
          obtain ⟨A8, ⟨h8, rfl⟩ | ⟨h8, rfl⟩, hcv⟩ := HCV.out
          all_goals
            first
              | (have hN0 : M = 8 := by omega
                 subst hN0
                 subst h8
                 simp only [Nat.sub_self] at hcv)
              | skip
            go_wp2_with fail
            go_quiet (fail)
            all_goals
              clear hcv
              go_wp2_with fail
              refine (w4awake_any A [1, 2, 3, 4] H1 H4 (w8.drewN nq) (HE.out.to (below_drewN HB8.out nq) (below_drewN HB8.out nq).size)).mono ?_
              rintro e w9 ⟨rfl, hb9⟩
              go_wp2
              go_ret
              exact ⟨rfl, (below_drewN HB8.out nq).trans (hb9.mono (below_drewN HB8.out nq).size)⟩
        · rw [errV_pos A (Nat.pos_of_ne_zero hz), if_neg hz, if_neg hz]
          have hbx : Below w6.heap.size w6 (w6.alloc (.cells #[.int .i64 0, .int .i64 0, .slice A9 (mgetL ro rp bs sig).length c9] 29)) := (Below.refl _ _).alloc (Nat.le_refl _) _
          have HBx := Lib.hid (HB6.out.trans (hbx.mono HB6.out.size))
          clear hz hbx
          go_wp2_with fail
          refine (w4awake_any A [1, 2, 3, 4] H1 H4 _ (HE.out.to HBx.out HBx.out.size)).mono ?_
          rintro e w8 ⟨rfl, hb8⟩
          have HB8 := Lib.hid (HBx.out.trans (hb8.mono HBx.out.size))
          clear hb8
          go_wp2
          go_ret
          exact ⟨rfl, HB8.out⟩
end Go.Proofs.YtihbgkighckiiaaDoor
