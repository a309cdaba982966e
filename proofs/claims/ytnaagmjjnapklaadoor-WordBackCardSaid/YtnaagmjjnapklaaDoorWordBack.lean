/- WordBack returns true for every input: what is put is got, with the place behind it; a multiple of four. No condition but what the card lists. -/
import Derived.Test.YtnaagmjjnapklaaDoorEnc
import Derived.Test.YtnaagmjjnapklaaDoorWordL
import Derived.Test.YtnaagmjjnapklaaDoorBytes
import Derived.Test.YtnaagmjjnapklaaDoorFix
import Derived.OpenShut
namespace Go.Proofs.YtnaagmjjnapklaaDoor
open Go.RowKit

def NoZero (s : ByteArray) (i : Value) : Prop := ∃ k : Nat, k ≤ s.size ∧ i = .int .i64 k ∧ ∀ j (h : j < k) (h2 : j < s.size), s[j] ≠ 0

set_option maxHeartbeats 3200000 in
theorem wordBackRow (A : Nat → Addr) (x : Int) (s : ByteArray) (v : Value) (more : List UInt8) (w : World) (hE : Errs w w.heap.size [1, 2, 3, 4] A) (hx : (Lit.int .u32 x).wf = true) (_ : s.size ≤ 140737488351232)
    (h : Sl w w.heap.size v (bv more) ∧ more.length ≤ 140737488351232) :
    Calls Tryd.prog 4 #[.int .u32 x, .string s, v] w fun e w' => e = .returned (.bool true) ∧ Below w.heap.size w w' := by
  obtain ⟨i, hi, hz, hs1, hby⟩ := info_parts Tryd.infoU8
  obtain ⟨x0, x1⟩ := bounds_u32 hx
  obtain ⟨h, hm⟩ := h
  have HM := Lib.hid h
  have HE := Lib.hid hE
  clear h hE hx
  by_cases hs : 4095 < s.size
  · go_enter Tryd.func4, Tryd.ntmps4
    go_wp2_with fail
    refine (wawake_any _).mono ?_
    rintro e w1 ⟨rfl, hb⟩
    go_wp2_with fail
    go_ret
    exact ⟨rfl, hb⟩
  · have hsl : s.data.toList.length = s.size := by rw [Array.length_toList]; rfl
    have HSL := Lib.hid hsl
    have hd : decide (4095 < (s.size : Int)) = false := by simp; omega
    clear hsl
    go_enter Tryd.func4, Tryd.ntmps4
    go_wp2_with fail
    go_loop [7] (NoZero s) (fun i => s.size - (intOf i).toNat)
    case atStart => exact ⟨0, Nat.zero_le _, rfl, fun j h => absurd h (Nat.not_lt_zero _)⟩
    case round =>
      obtain ⟨k, hk, rfl, hnz⟩ := hrel
      have HNZ := Lib.hid hnz
      clear hnz
      by_cases hlt : k < s.size
      · by_cases hz0 : s[k] = 0
        · have hq : (((s[k].toNat : Nat) : Int) == 0) = true := by rw [hz0]; rfl
          clear hz0
          go_wp2_with fail
          refine (wawake_any _).mono ?_
          rintro e w1 ⟨rfl, hb⟩
          go_wp2_with fail
          go_ret
          exact ⟨rfl, hb⟩
        · have hq : (((s[k].toNat : Nat) : Int) == 0) = false := by
            rw [beq_eq_false_iff_ne]
            intro h
            exact hz0 (UInt8.toNat_inj.1 (by simpa using h))
          have HQ := Lib.hid hz0
          clear hz0
          go_wp2_with fail
          go_round
          case rel => exact ⟨k + 1, by omega, by go_num, fun j h1 h2 => by
            rcases Nat.lt_succ_iff_lt_or_eq.1 h1 with h | rfl
            · exact HNZ.out j h h2
            · exact HQ.out⟩
          case measure => simp [intOf]; omega
      · have hno : (0 : UInt8) ∉ s.data.toList := by
          intro hmem
          obtain ⟨j, hj, he⟩ := List.getElem_of_mem hmem
          rw [HSL.out] at hj
          exact HNZ.out j (by omega) hj he
        obtain ⟨l, hl⟩ : ∃ l, l = s.data.toList := ⟨_, rfl⟩
        have HL := Lib.hid hl
        rw [← hl] at hno
        have hll : Hid (l.length = s.size) := by rw [hl]; exact HSL.out
        have hst : strB l = s := by rw [hl]; exact strB_of s
        have HST := Lib.hid hst
        have HNO := Lib.hid hno
        obtain ⟨n1, hn1⟩ : ∃ n, n = (encB (l ++ [0])).length := ⟨_, rfl⟩
        obtain ⟨n2, hn2⟩ : ∃ n, n = (encB l).length := ⟨_, rfl⟩
        have hn1b : n1 ≤ 4104 ∧ n1 % 4 = 0 := by
          rw [hn1, encB_length]; have := hll.out; simp only [List.length_append, List.length_cons, List.length_nil, fillN]; omega
        have hn2b : n2 ≤ 4104 ∧ n2 % 4 = 0 := by
          rw [hn2, encB_length]; have := hll.out; simp only [fillN]; omega
        obtain ⟨n1b, n1m⟩ := hn1b
        obtain ⟨n2b, n2m⟩ := hn2b
        have HN := Lib.hid (And.intro hn1 (And.intro hn2 (And.intro n1m n2m)))
        clear hl hst hno hn1 hn2 n1m n2m HSL HNZ
        go_wp2_with fail
        refine (put_any (.slice none 0 0) [] x w (Sl.nil_ _ _) (by simp) x0 (by omega)).mono ?_
        rintro e w1 ⟨v1, rfl, hown1, hb1⟩
        have H1 := Lib.hid (Sl.of_own hown1)
        clear hown1
        go_wp2_with fail
        refine (putText_any v1 _ s w1 H1.out (by simp [le4_length]) (by omega)).mono ?_
        rintro e w2 ⟨v2, rfl, hown2, hb2⟩
        have H2 := Lib.hid (Sl.of_own hown2)
        clear hown2
        rw [← HL.out] at H2
        have b2 := hb1.trans (hb2.mono hb1.size)
        go_wp2_with fail
        refine (putList_any v2 _ s w2 H2.out (by simp only [List.length_append, le4_length, List.length_nil]; rw [← HN.out.1]; omega) (by omega)).mono ?_
        rintro e w3 ⟨v3, rfl, hown3, hb3⟩
        have b3 := b2.trans (hb3.mono b2.size)
        rw [← HL.out] at hown3
        have hs3 : SlN w3 w3.heap.size 1 v3 (4 + n1 + n2) (bv (le4 x ++ (encB (l ++ [0]) ++ encB l))) := by
          have this := SlN.of_own hown3
          have hlen : (([] : List UInt8) ++ le4 x ++ encB (l ++ [0])).length + (encB l).length = 4 + n1 + n2 := by
            simp only [List.length_append, le4_length, List.length_nil]
            have h1 := HN.out.1
            have h2 := HN.out.2.1
            omega
          rw [hlen] at this
          rw [← List.append_assoc]
          simpa using this
        clear hown3
        have hs3' := hs3
        obtain ⟨_, A3, c3, rfl, hc3, hm3, _, _⟩ := hs3'
        unfold maxLen at hm3
        have H3 := Lib.hid hs3
        have E3 := Lib.hid (HE.out.to b3 b3.size)
        clear hs3
        go_wp2_with fail
        have hle : leV (le4 x ++ (encB (l ++ [0]) ++ encB l)) 0 = x := leV_le4 x _ x0 (by omega)
        have hlt4 : (le4 x ++ (encB (l ++ [0]) ++ encB l)).length = 4 + n1 + n2 := by
          simp only [List.length_append, le4_length]
          have h1 := HN.out.1
          have h2 := HN.out.2.1
          omega
        refine (get_ok _ _ 0 w3 H3.out.toSl (by omega)).mono ?_
        rintro e w4 ⟨rfl, hb4⟩
        rw [hle]
        have b4 := b3.trans (hb4.mono b3.size)
        have htx := text_enc (le4 x) l (encB l) HNO.out (by have := hll.out; omega)
        have hR : textR A (le4 x ++ (encB (l ++ [0]) ++ encB l)) 4 = .tuple #[.string s, .int .i64 (4 + n1 : Nat), .nilIface] := by
          have e1 : textE (le4 x ++ (encB (l ++ [0]) ++ encB l)) 4 = 0 := htx.1
          have e2 : (gotS (le4 x ++ (encB (l ++ [0]) ++ encB l)) 4).dropLast = l := htx.2.1
          have e3 : gotN (le4 x ++ (encB (l ++ [0]) ++ encB l)) 4 = 4 + n1 := by rw [HN.out.1]; exact htx.2.2
          rw [textR, if_pos e1, e2, e3, HST.out]
        have hg := getText_any A [1, 2, 3, 4] _ _ 4 w4 (H3.out.below hb4 |>.more hb4.size).toSl (HE.out.to b4 b4.size) (by simp) (by simp) (by simp) (by simp)
        rw [hR] at hg
        have HG := Lib.hid hg
        have HLT := Lib.hid hlt4
        clear hle hlt4 htx hR hg
        go_wp2_with fail
        refine HG.out.mono ?_
        rintro e w5 ⟨rfl, hb5⟩
        have b5 := b4.trans (hb5.mono b4.size)
        have H5 := Lib.hid ((H3.out.below hb4 |>.more hb4.size).below hb5 |>.more hb5.size)
        go_wp2_with fail
        refine (bytes_any _ _ w5 H5.out.toSl (by rw [HLT.out]; omega)).mono ?_
        rintro e w6 ⟨v6, rfl, hown6, hb6⟩
        have b6 := b5.trans (hb6.mono b5.size)
        have b6s := b6.size
        have H6 := Lib.hid hown6
        clear hown6
        have hmore : ∃ A7 c7, v = .slice A7 more.length c7 := by
          obtain ⟨_, A7, c7, hv, _⟩ := HM.out
          rw [bv_length] at hv
          exact ⟨A7, c7, hv⟩
        obtain ⟨A7, c7, rfl⟩ := hmore
        obtain ⟨m, hm2⟩ : ∃ m, m = more.length := ⟨_, rfl⟩
        rw [← hm2] at hm ⊢
        have HMM := Lib.hid hm2
        clear hm2
        go_wp2_with (
          at_builtin
          refine wpList_app rfl _ _ _ _ rfl _ _ rfl rfl (fun v' w' => Hid (w'.ownsRow w.heap.size 5 1 v' (4 + n1 + n2 + m) (bv (le4 x ++ (encB (l ++ [0]) ++ encB l)) ++ bv more) ∧ Below w.heap.size w6 w')) ?hrun ?_
          case hrun =>
            have hs : SlN w6 w.heap.size 1 (.slice A7 m c7) m (bv more) := by
              have := HM.out.below b6
              unfold Sl at this
              rw [bv_length, ← HMM.out] at this
              exact this
            have ho := H6.out
            rw [HLT.out] at ho
            obtain ⟨v', w', hr, h2, h3⟩ := run_app_own (ty := 23) Tryd.underlying23 hi hz hs1 rfl (owns_base ho b5.size) hs (bv_one more) b6s ⟨by omega, .inr hby⟩
            exact ⟨v', w', hr, h2, h3⟩
          intro v7 w7 hR7)
        have b7 := b6.trans hR7.out.2
        have hs7 := Sl.of_own hR7.out.1
        rw [← bv_append, List.append_assoc, List.append_assoc, ← List.append_assoc (le4 x)] at hs7
        have hgot := got_enc (le4 x ++ encB (l ++ [0])) l more 0 (Nat.zero_le _) (by have := hll.out; omega)
        have hpl : (le4 x ++ encB (l ++ [0])).length = 4 + n1 := by simp only [List.length_append, le4_length]; have h1 := HN.out.1; omega
        rw [hpl] at hgot
        have hR : gotR A (le4 x ++ encB (l ++ [0]) ++ (encB l ++ more)) ((4 + n1 : Nat) : Int) 0 = .tuple #[.string s, .int .i64 (4 + n1 + n2 : Nat), .nilIface] := by
          rw [gotR, if_pos hgot.1, hgot.2.1, hgot.2.2, HST.out, HN.out.2.1]
        have hg := getList_any A [1, 2, 3, 4] _ _ ((4 + n1 : Nat) : Int) w7 hs7 (HE.out.to b7 b7.size) (by simp) (by simp) (by simp) (by simp)
        rw [hR] at hg
        have HG7 := Lib.hid hg
        clear hs7 hgot hpl hR hg
        refine HG7.out.mono ?_
        rintro e w8 ⟨rfl, hb8⟩
        have b8 := b7.trans (hb8.mono b7.size)
        have hxx : (x == x) = true := beq_self_eq_true x
        have hq4 : (4 + (n1 : Int) + n2) % 4 = 0 := by have h1 := HN.out.2.2.1; have h2 := HN.out.2.2.2; omega
        go_wp2_with fail
        refine (wawake_any _).mono ?_
        rintro e w9 ⟨rfl, hb9⟩
        go_wp2_with fail
        go_ret
        exact ⟨rfl, b8.trans (hb9.mono b8.size)⟩
end Go.Proofs.YtnaagmjjnapklaaDoor
