/- PingAsks returns true for every input: one at a time is asked; another answer is none. No condition. -/
import Derived.Test.YtnaagmjjnapklaaPing
namespace Go.Proofs.Ytnaagmjjnapklaa
open Go.RowKit

def AskRel (B n : Nat) (w : World) (on ser i : Value) (wr : World) : Prop :=
  ∃ (k : Nat) (st : Option (Int × Int)), k ≤ n ∧ i = .int .i64 k ∧ on = .bool st.isSome ∧ ser = .int .i64 (serS st) ∧ PingIs wr B st ∧ Below B w wr

set_option maxHeartbeats 1600000 in
theorem pingAsks_any (v : Value) (zs : List Int) (w : World) (h : Sl w w.heap.size v (zs.map (Value.int .i64))) :
    Calls Try.prog 6 #[v] w fun e w' => e = .returned (.bool true) ∧ Below w.heap.size w w' := by
  have hs := h
  obtain ⟨_, A, c, hv, hc, hm, hx⟩ := h
  obtain ⟨n, hn⟩ : ∃ n, n = (zs.map (Value.int .i64)).length := ⟨_, rfl⟩
  rw [← hn] at hv hc hx
  subst hv
  unfold maxLen at hm
  have HN := Lib.hid hn
  clear hn
  go_enter Try.func6, Try.ntmps6
  go_wp2_with fail
  refine (new_any _).mono ?_
  rintro e w1 ⟨rfl, hp1, hb1⟩
  go_wp2_with fail
  go_loopw [4, 5, 6] (AskRel w.heap.size n w) (fun _ _ i _ => n - (intOf i).toNat)
  case atStart => exact ⟨0, none, Nat.zero_le _, rfl, rfl, rfl, hp1, hb1⟩
  case round =>
    obtain ⟨k, st, hk, rfl, rfl, rfl, hp, hb⟩ := hrel
    by_cases hlt : k < n ∧ k < 40
    · obtain ⟨hk1, hk2⟩ := hlt
      obtain ⟨b, off, rfl, hB, hx⟩ := hx (by omega)
      have hkz : k < zs.length := by have := HN.out; simp at this; omega
      have hcell : ∀ wz, Below w.heap.size w wz → wz.cell? ⟨b, off + k, none⟩ = some (.int .i64 zs[k]) := fun wz hbz =>
        (hbz.cell (p := ⟨b, off + k, none⟩) hB).trans (hx k _ (by simp [hkz]))
      clear hx
      have hcr := hcell _ hb
      have HC := Lib.hid hcell
      clear hcell
      obtain ⟨K, hK⟩ : ∃ K, K = bits .and .i64 zs[k] 7 := ⟨_, rfl⟩
      have HK := Lib.hid hK
      clear hK
      have hend : ∀ (st' : Option (Int × Int)) (wz : World), PingIs wz w.heap.size st' → Below w.heap.size w wz →
          AskRel w.heap.size n w (.bool st'.isSome) (.int .i64 (serS st')) (.int .i64 (k + 1)) wz := fun st' wz h1 h2 =>
        ⟨k + 1, st', by omega, by simp, rfl, rfl, h1, h2⟩
      have hmeas : n - (intOf (.int .i64 ((k : Int) + 1))).toNat < n - (intOf (.int .i64 (k : Int))).toNat := by simp [intOf]; omega
      have HE := Lib.hid hend
      have HM := Lib.hid hmeas
      clear hend hmeas
      cases h8 : (bits .and .i64 zs[k] 8 == 0)
      · -- an answer
        rcases st with _ | ⟨s0, t0⟩
        · simp only [Option.isSome_none]
          go_wp2_with fail
          rw [← HK.out]
          refine (pong_none _ _ _ hp).mono ?_
          rintro e w2 ⟨rfl, q, rfl⟩
          go_wp2_with fail
          refine (waits_any _ _ _ (hp.drewN q)).mono ?_
          rintro e w2 ⟨rfl, rfl⟩
          simp only [Option.isSome_none, serS]
          go_wp2_with fail
          exact ⟨HE.out none _ (hp.drewN q) (below_drewN hb q), HM.out⟩
        · simp only [Option.isSome_some, serS]
          by_cases hs : s0 = K
          · subst hs
            have h1 : (s0 == s0) = true := beq_self_eq_true s0
            go_wp2_with fail
            rw [← HK.out]
            refine (pong_hit _ _ _ _ hp).mono ?_
            rintro e w2 ⟨rfl, hp2, hg2⟩
            have hb2 := below_of_only hb hg2 hb.size (Nat.le_refl _)
            go_wp2_with fail
            refine (waits_any _ _ _ hp2).mono ?_
            rintro e w3 ⟨rfl, rfl⟩
            simp only [Option.isSome_none, serS]
            go_wp2_with fail
            exact ⟨HE.out none _ hp2 hb2, HM.out⟩
          · have h1 : (s0 == K) = false := beq_eq_false_iff_ne.2 hs
            have HS := Lib.hid hs
            clear hs
            go_wp2_with fail
            rw [← HK.out]
            refine (pong_miss _ _ _ _ _ hp HS.out).mono ?_
            rintro e w2 ⟨rfl, q, rfl⟩
            go_wp2_with fail
            refine (waits_any _ _ _ (hp.drewN q)).mono ?_
            rintro e w3 ⟨rfl, rfl⟩
            have h2 : (s0 == s0) = true := beq_self_eq_true s0
            simp only [Option.isSome_some, serS]
            go_wp2_with fail
            exact ⟨HE.out (some (s0, t0)) _ (hp.drewN q) (below_drewN hb q), HM.out⟩
      · rcases st with _ | ⟨s0, t0⟩
        · simp only [Option.isSome_none]
          go_wp2_with fail
          rw [← HK.out]
          refine (ask_none _ _ _ _ hp).mono ?_
          rintro e w2 ⟨rfl, hp2, hg2⟩
          have hb2 := below_of_only hb hg2 hb.size (Nat.le_refl _)
          have h2 : (K == K) = true := beq_self_eq_true K
          go_wp2_with fail
          refine (waits_any _ _ _ hp2).mono ?_
          rintro e w3 ⟨rfl, rfl⟩
          simp only [Option.isSome_some, serS]
          go_wp2_with fail
          exact ⟨HE.out (some (K, k)) _ hp2 hb2, HM.out⟩
        · simp only [Option.isSome_some, serS]
          have h2 : (s0 == s0) = true := beq_self_eq_true s0
          go_wp2_with fail
          rw [← HK.out]
          refine (ask_some _ _ _ _ _ _ hp).mono ?_
          rintro e w2 ⟨rfl, rfl⟩
          go_wp2_with fail
          refine (waits_any _ _ _ hp).mono ?_
          rintro e w3 ⟨rfl, rfl⟩
          simp only [Option.isSome_some, serS]
          go_wp2_with fail
          exact ⟨HE.out (some (s0, t0)) _ hp hb, HM.out⟩
    · by_cases h1 : k < n
      · have h2 : ¬ k < 40 := fun h => hlt ⟨h1, h⟩
        clear hx
        go_wp2_with fail
        refine (pawake_any _).mono ?_
        rintro e w2 ⟨rfl, hb2⟩
        go_wp2_with fail
        go_ret
        exact ⟨rfl, hb.trans (hb2.mono hb.size)⟩
      · have hd : decide (k < n) = false := by simpa using h1
        clear hx
        go_wp2_with fail
        refine (pawake_any _).mono ?_
        rintro e w2 ⟨rfl, hb2⟩
        go_wp2_with fail
        go_ret
        exact ⟨rfl, hb.trans (hb2.mono hb.size)⟩
theorem pingAsksRow (v : Value) (zs : List Int) (w : World) (h : Sl w w.heap.size v (zs.map (Value.int .i64)) ∧ (∀ n ∈ zs, (Lit.int .i64 n).wf = true) ∧ zs.length * 8 ≤ 140737488351232) :
    Calls Try.prog 6 #[v] w fun e w' => e = .returned (.bool true) ∧ Below w.heap.size w w' := pingAsks_any v zs w h.1
end Go.Proofs.Ytnaagmjjnapklaa
