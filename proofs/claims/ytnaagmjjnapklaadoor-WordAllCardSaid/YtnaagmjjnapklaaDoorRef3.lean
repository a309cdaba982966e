/- The document's words: tableauref01's GetText. No condition. -/
import Derived.Test.YtnaagmjjnapklaaDoorRef2
import Derived.Test.YtnaagmjjnapklaaDoorEnc
namespace Go.Proofs.YtnaagmjjnapklaaDoor
open Go.RowKit
set_option maxRecDepth 100000

noncomputable def rtextR (bs : List UInt8) (at_ : Int) : Value :=
  if textE bs at_ = 0 then .tuple #[.string (strB (gotS bs at_).dropLast), .int .i64 (gotN bs at_), .int .i64 0] else .tuple #[.string (strB []), .int .i64 0, .int .i64 (textE bs at_)]
theorem byteAt_zero (l : List UInt8) (j : Nat) (h : j < l.length) : byteAt l j = 0 ↔ l[j] = 0 := by
  unfold byteAt
  rw [List.getElem?_eq_getElem h, Option.getD_some]
  constructor
  · intro e; exact UInt8.toNat_inj.1 (by simpa using e)
  · intro e; rw [e]; rfl
theorem textOk_all (l : List UInt8) (hl : 0 < l.length) : textOk l ↔ ∀ j, j < l.length → (byteAt l j = 0 ↔ j = l.length - 1) := by
  constructor
  · intro h j hj
    obtain ⟨a, rfl, ha⟩ := textOk_last l (by intro e; rw [e] at hl; exact absurd hl (Nat.lt_irrefl _)) h
    rw [byteAt_zero _ _ hj]
    simp only [List.length_append, List.length_singleton] at hj ⊢
    rcases Nat.lt_or_ge j a.length with h1 | h1
    · rw [List.getElem_append_left h1]
      constructor
      · intro e; exact absurd (e ▸ List.getElem_mem h1) ha
      · intro e; omega
    · obtain rfl : j = a.length := by omega
      simp
  · intro h
    have hne : l ≠ [] := by intro e; rw [e] at hl; exact absurd hl (Nat.lt_irrefl _)
    have e : l = l.dropLast ++ [0] := by
      have h1 := (h (l.length - 1) (by omega)).2 rfl
      rw [byteAt_zero _ _ (by omega)] at h1
      have h2 := List.dropLast_concat_getLast hne
      rw [List.getLast_eq_getElem, h1] at h2
      exact h2.symm
    rw [e, textOk_iff]
    intro hm
    obtain ⟨j, hj, hj2⟩ := List.getElem_of_mem hm
    rw [List.length_dropLast] at hj
    have h1 := (h j (by omega)).1 (by rw [byteAt_zero _ _ (by omega)]; rw [List.getElem_dropLast] at hj2; exact hj2)
    omega
theorem gotE_one (bs : List UInt8) (at_ : Int) (h : ¬ (getE bs at_ = 0 ∧ getV bs at_ = 0)) : gotE bs at_ 1 = gotE bs at_ 0 := by
  by_cases he : getE bs at_ ≠ 0
  · simp only [gotE]; rw [if_pos he, if_pos he]
  · have h1 : getV bs at_ = leV bs at_.toNat := by unfold getV; rw [if_pos (by omega)]
    have h2 := (leV_nonneg bs at_.toNat).1
    have h3 : leV bs at_.toNat ≠ 0 := fun e => h ⟨by omega, by rw [h1, e]⟩
    have hA : ¬ leV bs at_.toNat < ((1 : Nat) : Int) := by omega
    have hB : ¬ leV bs at_.toNat < ((0 : Nat) : Int) := by omega
    simp only [gotE]; rw [if_neg he, if_neg he, if_neg hA, if_neg hB]
theorem gotE_null (bs : List UInt8) (at_ : Int) (h : getE bs at_ = 0 ∧ getV bs at_ = 0) : gotE bs at_ 1 = 3 := by
  have h1 : getV bs at_ = leV bs at_.toNat := by unfold getV; rw [if_pos h.1]
  simp only [gotE]; rw [if_neg (by omega), if_pos (by omega)]

def TextRel (l : List UInt8) (i : Value) : Prop := ∃ k : Nat, k ≤ l.length ∧ i = .int .i64 k ∧ ∀ j, j < k → (byteAt l j = 0 ↔ j = l.length - 1)
set_option maxHeartbeats 1600000 in
theorem rgetText_any (v : Value) (bs : List UInt8) (at_ : Int) (w : World) (h : Sl w w.heap.size v (bv bs)) :
    Calls Tryd.prog 26 #[v, .int .i64 at_] w fun e w' => e = .returned (rtextR bs at_) ∧ Below w.heap.size w w' := by
  have HS := Lib.hid h
  clear h
  by_cases h0 : getE bs at_ = 0 ∧ getV bs at_ = 0
  · have hR : rtextR bs at_ = .tuple #[.string ⟨#[]⟩, .int .i64 0, .int .i64 3] := by
      have e1 := gotE_null bs at_ h0
      have e0 : textE bs at_ = 3 := by simp only [textE]; rw [if_pos (by omega), e1]
      rw [rtextR, e0]; rfl
    obtain ⟨h1, h2⟩ := h0
    have H1 := Lib.hid h1
    have H2 := Lib.hid h2
    have HR := Lib.hid hR
    clear h1 h2 hR
    go_enter Tryd.func26, Tryd.ntmps26
    go_wp2_with fail
    refine (rget_any v bs at_ w HS.out).mono ?_
    rintro e w1 ⟨rfl, hb1⟩
    rw [H1.out, H2.out]
    go_wp2_with fail
    refine bodyPost_ret (results_tmp3 rfl _ _ _) rfl ?_
    rw [HR.out]
    exact ⟨rfl, hb1⟩
  · have e1 := gotE_one bs at_ h0
    obtain ⟨k, hk⟩ : ∃ k, k = getE bs at_ := ⟨_, rfl⟩
    obtain ⟨x, hx⟩ : ∃ x, x = getV bs at_ := ⟨_, rfl⟩
    rw [← hk, ← hx] at h0
    have hno : ((k : Int) == 0) = false ∨ (((k : Int) == 0) = true ∧ (x == 0) = false) := by
      by_cases hk0 : k = 0
      · exact .inr ⟨by subst hk0; rfl, by rw [beq_eq_false_iff_ne]; intro e; exact h0 ⟨hk0, e⟩⟩
      · exact .inl (by rw [beq_eq_false_iff_ne]; omega)
    have HK := Lib.hid hk
    have HX := Lib.hid hx
    have G := Lib.hid (rgets_any v bs at_)
    clear hk hx h0
    by_cases he : gotE bs at_ 0 = 0
    · obtain ⟨_, hlen, hlen2, _⟩ := gotS_length bs at_ 1 (by rw [e1]; exact he)
      obtain ⟨l, hl⟩ : ∃ l, l = gotS bs at_ := ⟨_, rfl⟩
      obtain ⟨nx, hnx⟩ : ∃ n : Nat, n = gotN bs at_ := ⟨_, rfl⟩
      have hg : rgotR bs at_ = .tuple #[.string (strB l), .int .i64 nx, .int .i64 0] := by rw [rgotR, if_pos he, ← hl, ← hnx]
      have hle : (strB l).data.toList = l := strB_toList l
      have hsz : (strB l).size = l.length := strB_size l
      rw [← hl] at hlen hlen2
      have hcut : (strB l).extract 0 (l.length - 1) = strB l.dropLast := by
        rw [← strB_of ((strB l).extract 0 (l.length - 1)), Lib.extract_data, hle, List.dropLast_eq_take]
        simp
      have hT : textE bs at_ = if textOk l then 0 else 3 := by simp only [textE]; rw [if_neg (by omega), ← hl]
      have hRok : Hid (textOk l → rtextR bs at_ = .tuple #[.string (strB l.dropLast), .int .i64 nx, .int .i64 0]) := fun hk => by
        rw [if_pos hk] at hT
        rw [rtextR, if_pos hT, ← hl, ← hnx]
      have hRno : Hid (¬ textOk l → rtextR bs at_ = .tuple #[.string ⟨#[]⟩, .int .i64 0, .int .i64 3]) := fun hk => by
        rw [if_neg hk] at hT
        rw [rtextR, hT]; rfl
      have HALL := Lib.hid (textOk_all l hlen)
      have HG := Lib.hid hg
      have HC := Lib.hid hcut
      have hbyte : Hid (∀ i (hi : i < (strB l).size), ((strB l)[i].toNat : Int) = byteAt l i) := fun i hi => by
        have hi2 : i < l.length := by rw [← hsz]; exact hi
        unfold byteAt
        rw [List.getElem?_eq_getElem hi2, Option.getD_some]
        exact congrArg (fun b : UInt8 => (b.toNat : Int)) (show (strB l)[i] = l[i] from by show (l.toArray)[i] = _; simp)
      obtain ⟨st, hst⟩ : ∃ s, s = strB l := ⟨_, rfl⟩
      rw [← hst] at HG hsz HC
      have HST := Lib.hid hst
      have HSZ := Lib.hid hsz
      have hbyte2 : Hid (∀ i (hi : i < st.size), (st[i].toNat : Int) = byteAt l i) := by
        subst hst; exact hbyte.out
      clear hT hl hnx hg hle hcut hst hbyte he e1
      obtain ⟨n, hn⟩ : ∃ n, n = l.length := ⟨_, rfl⟩
      rw [← hn] at hlen hlen2 hsz
      have HN := Lib.hid hn
      clear hn
      rcases hno with hno | ⟨hno1, hno2⟩
      all_goals
        go_enter Tryd.func26, Tryd.ntmps26
        go_wp2_with fail
        refine (rget_any v bs at_ w HS.out).mono ?_
        rintro e w1 ⟨rfl, hb1⟩
        rw [← HK.out, ← HX.out]
        have HB1 := Lib.hid hb1
        have hs1 := (HS.out.below hb1).more hb1.size
        have HS1 := Lib.hid hs1
        clear hb1 hs1
        go_wp2_with fail
        refine (G.out w1 HS1.out).mono ?_
        rintro e w2 ⟨rfl, hb2⟩
        rw [HG.out]
        have HB2 := Lib.hid (HB1.out.trans (hb2.mono HB1.out.size))
        clear hb2
        go_wp2_with fail
        go_loop [12] (TextRel l) (fun i => n - (intOf i).toNat)
        case atStart => exact ⟨0, Nat.zero_le _, rfl, fun j hj => absurd hj (Nat.not_lt_zero _)⟩
        case round =>
          obtain ⟨i, hi, rfl, hall⟩ := hrel
          have HA := Lib.hid hall
          have hin : i ≤ n := by rw [HN.out]; exact hi
          clear hall hi
          by_cases hlt : i < n
          · have hist : i < st.size := by omega
            obtain ⟨c, hc⟩ : ∃ c : Nat, st[i].toNat = c := ⟨_, rfl⟩
            have hby : byteAt l i = c := by rw [← hbyte2.out i hist, hc]
            have HBY := Lib.hid hby
            clear hby
            by_cases hc0 : c = 0 <;> by_cases hl0 : i = n - 1
            · have b1 : ((c : Int) == 0) = true := by rw [beq_iff_eq]; omega
              have b2 : ((i : Int) == (n : Int) - 1) = true := by rw [beq_iff_eq]; omega
              have HC0 := Lib.hid hc0
              have HL0 := Lib.hid hl0
              clear hc0 hl0
              go_wp2_with fail
              go_round
              case rel => exact ⟨i + 1, by rw [← HN.out]; omega, by go_num, fun j hj => by
                rcases Nat.lt_succ_iff_lt_or_eq.1 hj with h | rfl
                · exact HA.out j h
                · rw [HBY.out, HC0.out, ← HN.out]; exact ⟨fun _ => HL0.out, fun _ => rfl⟩⟩
              case measure => simp [intOf]; omega
            · have b1 : ((c : Int) == 0) = true := by rw [beq_iff_eq]; omega
              have b2 : ((i : Int) == (n : Int) - 1) = false := by rw [beq_eq_false_iff_ne]; omega
              have HC0 := Lib.hid hc0
              have HL0 := Lib.hid hl0
              clear hc0 hl0
              go_wp2_with fail
              refine bodyPost_ret (results_tmp3 rfl _ _ _) rfl ?_
              rw [hRno.out (fun hk => HL0.out (by rw [HN.out]; exact (HALL.out.1 hk i (by rw [← HN.out]; exact hlt)).1 (by rw [HBY.out, HC0.out]; rfl)))]
              exact ⟨rfl, HB2.out⟩
            · have b1 : ((c : Int) == 0) = false := by rw [beq_eq_false_iff_ne]; omega
              have b2 : ((i : Int) == (n : Int) - 1) = true := by rw [beq_iff_eq]; omega
              have HC0 := Lib.hid hc0
              have HL0 := Lib.hid hl0
              clear hc0 hl0
              go_wp2_with fail
              refine bodyPost_ret (results_tmp3 rfl _ _ _) rfl ?_
              rw [hRno.out (fun hk => HC0.out (by have := (HALL.out.1 hk i (by rw [← HN.out]; exact hlt)).2 (by rw [← HN.out]; exact HL0.out); rw [HBY.out] at this; omega))]
              exact ⟨rfl, HB2.out⟩
            · have b1 : ((c : Int) == 0) = false := by rw [beq_eq_false_iff_ne]; omega
              have b2 : ((i : Int) == (n : Int) - 1) = false := by rw [beq_eq_false_iff_ne]; omega
              have HC0 := Lib.hid hc0
              have HL0 := Lib.hid hl0
              clear hc0 hl0
              go_wp2_with fail
              go_round
              case rel => exact ⟨i + 1, by rw [← HN.out]; omega, by go_num, fun j hj => by
                rcases Nat.lt_succ_iff_lt_or_eq.1 hj with h | rfl
                · exact HA.out j h
                · rw [HBY.out, ← HN.out]; exact ⟨fun h => absurd (by omega) HC0.out, fun h => absurd h HL0.out⟩⟩
              case measure => simp [intOf]; omega
          · obtain rfl : i = n := by omega
            have HOK : Hid (textOk l) := HALL.out.2 (fun j hj => HA.out j (by rw [HN.out]; exact hj))
            go_wp2_with fail
            refine bodyPost_ret (results_tmp3 rfl _ _ _) rfl ?_
            rw [hRok.out HOK.out, ← HC.out, ← HN.out]
            exact ⟨rfl, HB2.out⟩
    · have hp : 0 < gotE bs at_ 0 := by omega
      obtain ⟨q, hq⟩ : ∃ q, q = gotE bs at_ 0 := ⟨_, rfl⟩
      have hg : rgotR bs at_ = .tuple #[.string ⟨#[]⟩, .int .i64 0, .int .i64 q] := by rw [rgotR, if_neg he, ← hq]; rfl
      have hR : rtextR bs at_ = .tuple #[.string ⟨#[]⟩, .int .i64 0, .int .i64 q] := by
        have e0 : textE bs at_ = q := by simp only [textE]; rw [if_pos (by omega), e1, hq]
        rw [rtextR, if_neg (by omega), e0]; rfl
      rw [← hq] at hp
      have hne : ((q : Int) != 0) = true := by rw [bne_iff_ne]; omega
      have HG := Lib.hid hg
      have HR := Lib.hid hR
      clear hg hR hq e1 he
      rcases hno with hno | ⟨hno1, hno2⟩
      all_goals
        go_enter Tryd.func26, Tryd.ntmps26
        go_wp2_with fail
        refine (rget_any v bs at_ w HS.out).mono ?_
        rintro e w1 ⟨rfl, hb1⟩
        rw [← HK.out, ← HX.out]
        have HB1 := Lib.hid hb1
        have hs1 := (HS.out.below hb1).more hb1.size
        have HS1 := Lib.hid hs1
        clear hb1 hs1
        go_wp2_with fail
        refine (G.out w1 HS1.out).mono ?_
        rintro e w2 ⟨rfl, hb2⟩
        rw [HG.out]
        have HB2 := Lib.hid (HB1.out.trans (hb2.mono HB1.out.size))
        clear hb2
        go_wp2_with fail
        refine bodyPost_ret (results_tmp3 rfl _ _ _) rfl ?_
        rw [HR.out]
        exact ⟨rfl, HB2.out⟩
end Go.Proofs.YtnaagmjjnapklaaDoor
