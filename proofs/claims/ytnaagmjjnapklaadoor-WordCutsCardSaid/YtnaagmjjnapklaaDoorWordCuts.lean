/- WordCuts returns true for every input: a text that is cut is none; with a byte 0 within it, neither. No condition but what the card lists. -/
import Derived.Test.YtnaagmjjnapklaaDoorEnc
import Derived.Test.YtnaagmjjnapklaaDoorKind
import Derived.Test.YtnaagmjjnapklaaDoorFix
import Derived.Test.YtnaagmjjnapklaaDoorPl
namespace Go.Proofs.YtnaagmjjnapklaaDoor
open Go.RowKit

theorem textR_err (A : Nat → Addr) (bs : List UInt8) (at_ : Int) {k : Nat} (h : textE bs at_ = k) (hk : k ≠ 0) : textR A bs at_ = .tuple #[.string (strB []), .int .i64 0, errV A k] := by
  subst h; rw [textR, if_neg hk]

set_option maxHeartbeats 800000 in
theorem wordCutsRow (A : Nat → Addr) (s : ByteArray) (at_ : Int) (w : World) (hE : Errs w w.heap.size allErrs A) (_ : s.size ≤ 140737488351232) (_ : (Lit.int .i64 at_).wf = true) :
    Calls Tryd.prog 5 #[.string s, .int .i64 at_] w fun e w' => e = .returned (.bool true) ∧ Below w.heap.size w w' := by
  have hsl : s.data.toList.length = s.size := by rw [Array.length_toList]; rfl
  by_cases hs : 2000 < s.size
  · clear hE hsl
    go_enter Tryd.func5, Tryd.ntmps5
    go_wp2_with fail
    refine (wawake_any _).mono ?_
    rintro e w1 ⟨rfl, hb⟩
    go_wp2_with fail
    go_ret
    exact ⟨rfl, hb⟩
  · obtain ⟨l, hl⟩ : ∃ l, l = s.data.toList := ⟨_, rfl⟩
    rw [← hl] at hsl
    obtain ⟨n, hn⟩ : ∃ n, n = (encB (l ++ [0])).length := ⟨_, rfl⟩
    have hn8 : 8 ≤ n ∧ n ≤ 2100 := by
      rw [hn, encB_length]
      simp only [List.length_append, List.length_cons, List.length_nil, fillN]
      omega
    obtain ⟨n1, n2⟩ := hn8
    have HL := Lib.hid (And.intro hl (And.intro hn hsl))
    clear hl hn hsl
    obtain ⟨k, hk⟩ : ∃ k, k = at_ % (n : Int) := ⟨_, rfl⟩
    have k0 : 0 ≤ k := by rw [hk]; exact Int.emod_nonneg _ (by omega)
    have k1 : k < n := by rw [hk]; exact Int.emod_lt_of_pos _ (by omega)
    have HK := Lib.hid hk
    clear hk
    obtain ⟨k, rfl⟩ := Int.eq_ofNat_of_zero_le k0
    go_enter Tryd.func5, Tryd.ntmps5
    go_wp2_with fail
    refine (putText_any (.slice none 0 0) [] s w (Sl.nil_ _ _) (by simp) (by omega)).mono ?_
    rintro e w1 ⟨v1, rfl, hown1, hb1⟩
    rw [← HL.out.1] at hown1
    have hs1 : SlN w1 w1.heap.size 1 v1 n (bv (encB (l ++ [0]))) := by
      have := SlN.of_own hown1
      rw [show ([] : List UInt8).length + (encB (l ++ [0])).length = n by rw [HL.out.2.1]; simp] at this
      exact this
    clear hown1
    have hs1' := hs1
    obtain ⟨_, Ad, c, rfl, hc, hm, _, _⟩ := hs1'
    unfold maxLen at hm
    have HS := Lib.hid hs1
    clear hs1
    have hE1 := hE.to hb1 hb1.size
    have HE := Lib.hid hE1
    clear hE1 hE
    go_wp2_with fail
    refine (place_any _ _ _ (by omega) (by omega)).mono ?_
    rintro e w2 ⟨rfl, rfl⟩
    rw [← HK.out]
    go_wp2_with fail
    have ht := HS.out.take_ (k := k) (by omega)
    rw [← bv_take] at ht
    have he2 : textE ((encB (l ++ [0])).take k) (0 : Nat) = 2 := text_cut l k (by have := HL.out.2.2; omega) (by rw [← HL.out.2.1]; omega)
    have hg := getText_any A allErrs _ _ 0 _ ht.toSl HE.out (mem_all 1 (by omega) (by omega)) (mem_all 2 (by omega) (by omega)) (mem_all 3 (by omega) (by omega)) (mem_all 4 (by omega) (by omega))
    rw [textR_err A _ 0 he2 (by omega), errV_pos A (by omega)] at hg
    have HG := Lib.hid hg
    clear hg he2 ht
    refine HG.out.mono ?_
    rintro e w2 ⟨rfl, hb2⟩
    have hE2 := HE.out.to hb2 hb2.size
    have HE2 := Lib.hid hE2
    clear hE2
    go_wp2_with fail
    have e1 : (s ++ ⟨#[0, 120]⟩ : ByteArray).data.toList = l ++ [0, 120] := by rw [HL.out.1]; simp
    have e2 : (s ++ ⟨#[0, 120]⟩ : ByteArray).size = s.size + 2 := by rw [ByteArray.size_append]; rfl
    refine (putText_any (.slice none 0 0) [] _ w2 (Sl.nil_ _ _) (by simp) (by omega)).mono ?_
    rintro e w3 ⟨v3, rfl, hown3, hb3⟩
    rw [e1] at hown3
    clear e1 e2
    have hs3 := Sl.of_own hown3
    rw [List.nil_append] at hs3
    clear hown3
    have he3 : textE (encB (l ++ [0, 120] ++ [0])) (0 : Nat) = 3 := by
      have := text_bad [] (l ++ [0, 120]) [] (by simp) (by have := HL.out.2.2; simp; omega)
      simpa using this
    have hE3 := HE2.out.to hb3 hb3.size
    have hg := getText_any A allErrs _ _ 0 _ hs3 hE3 (mem_all 1 (by omega) (by omega)) (mem_all 2 (by omega) (by omega)) (mem_all 3 (by omega) (by omega)) (mem_all 4 (by omega) (by omega))
    rw [textR_err A _ 0 he3 (by omega), errV_pos A (by omega)] at hg
    have HG := Lib.hid hg
    have HE3 := Lib.hid hE3
    clear hg he3 hs3 hE3
    go_wp2_with fail
    refine HG.out.mono ?_
    rintro e w4 ⟨rfl, hb4⟩
    have hE4 := HE3.out.to hb4 hb4.size
    have HE4 := Lib.hid hE4
    clear hE4
    go_wp2_with fail
    refine (kind_err A 2 (by omega) (by omega) _ HE4.out).mono ?_
    rintro e w5 ⟨rfl, hb5⟩
    have HE5 := Lib.hid (HE4.out.to hb5 hb5.size)
    go_wp2_with fail
    refine (kind_err A 3 (by omega) (by omega) _ HE5.out).mono ?_
    rintro e w6 ⟨rfl, hb6⟩
    go_wp2_with fail
    refine (wawake_any _).mono ?_
    rintro e w7 ⟨rfl, hb7⟩
    go_wp2_with fail
    go_ret
    have b2 := hb1.trans (hb2.mono hb1.size)
    have b3 := b2.trans (hb3.mono b2.size)
    have b4 := b3.trans (hb4.mono b3.size)
    have b5 := b4.trans (hb5.mono b4.size)
    have b6 := b5.trans (hb6.mono b5.size)
    exact ⟨rfl, b6.trans (hb7.mono b6.size)⟩
end Go.Proofs.YtnaagmjjnapklaaDoor
