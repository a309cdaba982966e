/- The walk over tableaulaw04.WireSizes. -/
import Derived.Test.YtihbgkighckiiaaDoorWAwake
import Derived.Test.YtihbgkighckiiaaDoorSizesL
import Derived.Test.YtihbgkighckiiaaDoorPl
namespace Go.Proofs.YtihbgkighckiiaaDoor
open Go.RowKit
set_option maxRecDepth 100000

theorem Tryd.infoArg : (Tryd.prog.info? 26).map (fun i => (i.zero, i.size, i.bytes)) = some (some (.agg #[.int .u8 0, .int .i64 0, .string ⟨#[]⟩]), 3, 32) := by kernel_rfl
def SizeRel (w : World) (g k : Nat) (a i : Value) (wr : World) : Prop :=
  ∃ n : Nat, n ≤ k ∧ a = .string (sigU n) ∧ i = .int .i64 n ∧ ∃ v, wr.ownsRow (g + 1) 26 3 v n (argCells (argsU n)) ∧ Blk wr g 29 #[.int .i64 7, .int .i64 3, v] ∧ Below w.heap.size w wr
theorem own_off {w : World} {g s n : Nat} {e : TypeId} {v : Value} {xs : List Value} (h : w.ownsRow (g + 1) e s v n xs) : some g ≠ v.ownBlock := by
  rcases h.2 with ⟨rfl, _⟩ | ⟨b, cap, cur, rfl, hb, _⟩
  · simp [Value.ownBlock]
  · simp [Value.ownBlock]; omega
theorem own_slice {w : World} {B s n : Nat} {e : TypeId} {v : Value} {xs : List Value} (h : w.ownsRow B e s v n xs) : ∃ A c, v = .slice A n c := by
  rcases h.2 with ⟨rfl, rfl⟩ | ⟨b, cap, cur, rfl, _⟩
  · exact ⟨_, _, rfl⟩
  · exact ⟨_, _, rfl⟩
theorem arg_lit (w : World) (k z : Int) (s : ByteArray) : ∀ j u, [Value.int .u8 k, .int .i64 z, .string s][j]? = some u → (w.alloc (.cells #[.int .u8 k, .int .i64 z, .string s] 26)).cell? ((⟨w.heap.size, 0, none⟩ : Addr).add j) = some u := fun j u hu => by
  rw [add_of_lit, (Blk.new w 26 _).cell]
  simpa using hu
/-- An argument put behind a message's. -/
theorem arg_app {w0 w : World} {g n : Nat} {v : Value} {xs : List Value} (k z : Int) (s : ByteArray) (ty : TypeId) (hg : w0.heap.size ≤ g) (ho : w.ownsRow (g + 1) 26 3 v n xs) (hk : Blk w g 29 #[.int .i64 7, .int .i64 3, v]) (hb : Below w0.heap.size w0 w) (hn : n ≤ 1000) :
    ∃ v' w', (Builtin.append_ #[27, 27] ty #[v, .slice (some ⟨w.heap.size, 0, none⟩) 1 1]).run Tryd.prog (w.alloc (.cells #[.int .u8 k, .int .i64 z, .string s] 26)) = .ok v' w' ∧
      Hid (w'.ownsRow (g + 1) 26 3 v' (n + 1) (xs ++ [.int .u8 k, .int .i64 z, .string s]) ∧ Blk w' g 29 #[.int .i64 7, .int .i64 3, v] ∧ Below w0.heap.size w0 w') := by
  obtain ⟨i, hi, hz, hs, hby⟩ := info_parts Tryd.infoArg
  have hgs := hk.lt
  have hb1 := hb.alloc hb.size (.cells #[.int .u8 k, .int .i64 z, .string s] 26)
  obtain ⟨v', w', hr, h2, h3, _⟩ := run_append_own (P := Tryd.prog) (w := w.alloc (.cells #[.int .u8 k, .int .i64 z, .string s] 26)) (g + 1) 27 ty 26 i _ 3 32 Tryd.underlying27 hi hz hs hby rfl (by decide) v n xs
    (ho.alloc (.cells #[.int .u8 k, .int .i64 z, .string s] 26)) ⟨w.heap.size, 0, none⟩ 1 1 [.int .u8 k, .int .i64 z, .string s] rfl (arg_lit w k z s) (by intro u hu; simp at hu; rcases hu with rfl | rfl | rfl <;> rfl) (by unfold maxLen; omega) (by omega) (by rw [World.size_alloc]; omega)
  refine ⟨v', w', hr, h2, (hk.alloc _).grown h3 (own_off ho), ?_⟩
  refine hb1.grown h3 (by rw [World.size_alloc]; have := hb.size; omega) (fun b hb2 => ?_)
  rcases ho.2 with ⟨rfl, _⟩ | ⟨b2, cap, cur, rfl, hb3, _⟩
  · simp [Value.ownBlock] at hb2
  · simp [Value.ownBlock] at hb2; omega
/-- .. and laid into the message. -/
theorem arg_set {w0 w : World} {g n : Nat} {v v' : Value} {xs : List Value} (hg : w0.heap.size ≤ g) (h : Hid (w.ownsRow (g + 1) 26 3 v' n xs ∧ Blk w g 29 #[.int .i64 7, .int .i64 3, v] ∧ Below w0.heap.size w0 w)) :
    (w.setCell ⟨g, 2, none⟩ v').ownsRow (g + 1) 26 3 v' n xs ∧ Blk (w.setCell ⟨g, 2, none⟩ v') g 29 #[.int .i64 7, .int .i64 3, v'] ∧ Below w0.heap.size w0 (w.setCell ⟨g, 2, none⟩ v') := by
  obtain ⟨h1, h2, h3⟩ := h.out
  have hs := only_set (only_refl w (some g)) 2 v'
  exact ⟨h1.kept hs (.inr (fun e => own_off h1 e.symm)), h2.set_ 2 v', below_of_only h3 hs h3.size hg⟩

set_option maxHeartbeats 6400000 in
theorem wsizes_walk (A : Nat → Addr) (n : Int) (s : ByteArray) (w : World) (hE : Errs w w.heap.size allErrs A) (_ : (Lit.int .i64 n).wf = true) (hsz : s.size ≤ 140737488351232) :
    Calls Tryd.prog 5 #[.int .i64 n, .string s] w fun e w' => e = .returned (.bool true) ∧ Below w.heap.size w w' := by
  have H1 : (1 : Nat) ∈ allErrs := mem_all 1 (by omega) (by omega)
  have H2 : (2 : Nat) ∈ allErrs := mem_all 2 (by omega) (by omega)
  have H3 : (3 : Nat) ∈ allErrs := mem_all 3 (by omega) (by omega)
  have H4 : (4 : Nat) ∈ allErrs := mem_all 4 (by omega) (by omega)
  have HE := Lib.hid hE
  obtain ⟨k, hk⟩ : ∃ k : Nat, n % 30 = (k : Int) := ⟨(n % 30).toNat, by omega⟩
  have hk30 : k < 30 := by omega
  clear hE
  by_cases hbig : 200 < s.size
  · have d1 : decide (200 < (s.size : Int)) = true := by simp; omega
    clear hbig
    go_enter Tryd.func5, Tryd.ntmps5
    go_wp2_with fail
    refine (place_any n 30 w (by omega) (by omega)).mono ?_
    rintro e w1 ⟨rfl, rfl⟩
    go_wp2_with fail
    refine (w4awake_any A allErrs H1 H4 w HE.out).mono ?_
    rintro e w2 ⟨rfl, hb2⟩
    go_wp2
    go_ret
    exact ⟨rfl, hb2⟩
  have d1 : decide (200 < (s.size : Int)) = false := by simp; omega
  have hs200 : s.size ≤ 200 := by omega
  have hs6 : s.size ≤ 140737488351232 := by omega
  clear hbig
  obtain ⟨p1, p2, p3⟩ := all_head k s (by omega) hs200
  have pe := all_put k s (by omega) hs200
  have HP1 := Lib.hid p1
  have HP2 := Lib.hid p2
  have HP3 := Lib.hid p3
  have HPE := Lib.hid pe
  have HBAD := Lib.hid (all_bad k s)
  have HFIT := Lib.hid (all_fit k s hs200)
  obtain ⟨m, hm⟩ : ∃ m, m = s.size := ⟨_, rfl⟩
  obtain ⟨g, hg⟩ : ∃ g, g = w.heap.size := ⟨_, rfl⟩
  have HG := Lib.hid hg
  have HM := Lib.hid hm
  have hgw : w.heap.size ≤ g := by omega
  have hb0 : Hid (Below w.heap.size w (w.alloc (.cells #[.int .i64 7, .int .i64 3, .slice none 0 0] 29))) := (Below.refl _ _).alloc (Nat.le_refl _) _
  have hk0 : Hid (Blk (w.alloc (.cells #[.int .i64 7, .int .i64 3, .slice none 0 0] 29)) g 29 #[.int .i64 7, .int .i64 3, .slice none 0 0]) := by rw [hg]; exact Blk.new _ _ _
  clear p1 p2 p3 pe hg hm
  go_enter Tryd.func5, Tryd.ntmps5
  go_wp2_with fail
  refine (place_any n 30 w (by omega) (by omega)).mono ?_
  rintro e w1 ⟨rfl, rfl⟩
  rw [hk]
  go_wp2_with fail
  rw [← HG.out]
  go_loopw [7, 8] (SizeRel w g k) (fun _ a _ => k - (intOf a).toNat)
  case atStart => exact ⟨0, Nat.zero_le _, rfl, rfl, _, World.ownsRow_nil _ _ _ _, hk0.out, hb0.out⟩
  case round =>
    obtain ⟨i, hi, rfl, rfl, v, hown, hbk, hb⟩ := hrel
    have HO := Lib.hid hown
    have HK := Lib.hid hbk
    have HB := Lib.hid hb
    have gc2 : wr.cell? ⟨g, 2, none⟩ = some v := hbk.cell 2
    clear hown hbk hb
    have hsu : (sigU i).size ≤ 1000 := by rw [sigU_size]; omega
    by_cases hlt : i < k
    · go_upto_region 10 with (
        at_builtin
        refine wpList_app rfl _ _ _ _ rfl _ _ rfl rfl _ (arg_app 117 i ⟨#[]⟩ _ hgw HO.out HK.out HB.out (by omega)) ?_
        intro v' w' hR
        obtain ⟨A3, c3, rfl⟩ := own_slice hR.out.1
        have gd2 : w'.cell? ⟨g, 2, none⟩ = some v := hR.out.2.1.cell 2
        have gf2 : w'.frozen? ⟨g, 2, none⟩ = false := hR.out.2.1.frozen 2
        have HS := Lib.hid (arg_set hgw hR))
      go_wp2_with fail
      case roundEnd => exact ⟨⟨i + 1, by omega, by rw [sigU_succ], by go_num, _, by rw [argsU_succ, argCells_app]; exact HS.out.1, HS.out.2.1, HS.out.2.2⟩, by simp [intOf]; omega⟩
    · obtain rfl : i = k := by omega
      clear hlt
      have hfin : ∀ w1, Below w.heap.size w w1 → Errs w1 w1.heap.size allErrs A := fun w1 hb => HE.out.to hb hb.size
      have HF := Lib.hid hfin
      clear hfin
      go_upto_region 12 with (
        at_builtin
        refine wpList_app rfl _ _ _ _ rfl _ _ rfl rfl _ (arg_app 97 0 s _ hgw HO.out HK.out HB.out (by omega)) ?_
        intro v' w' hR
        obtain ⟨A3, c3, rfl⟩ := own_slice hR.out.1
        have gd2 : w'.cell? ⟨g, 2, none⟩ = some v := hR.out.2.1.cell 2
        have gf2 : w'.frozen? ⟨g, 2, none⟩ = false := hR.out.2.1.frozen 2
        have HS := Lib.hid (arg_set hgw hR))
      have hargs : argCells (argsU i) ++ [.int .u8 97, .int .i64 0, .string s] = argCells (allA i s) := by unfold allA; rw [argCells_app]; rfl
      have hown := HS.out.1
      rw [hargs] at hown
      have HAR : Hid (ArgsIs (w'.setCell ⟨g, 2, none⟩ (.slice A3 (i + 1) c3)) (.slice A3 (i + 1) c3) (allA i s)) := by
        have := SlN.of_own hown
        show SlN _ _ _ _ _ _
        rw [allA_length]; exact this
      have HBK := Lib.hid HS.out.2.1
      have HBB := Lib.hid HS.out.2.2
      clear hargs hown gd2 gf2 gc2 HS hR
      generalize (w'.setCell ⟨g, 2, none⟩ (.slice A3 (i + 1) c3)) = w2 at *
      have gm0 : w2.cell? ⟨g, 0, none⟩ = some (.int .i64 7) := HBK.out.cell 0
      have gm1 : w2.cell? ⟨g, 1, none⟩ = some (.int .i64 3) := HBK.out.cell 1
      have gm2 : w2.cell? ⟨g, 2, none⟩ = some (.slice A3 (i + 1) c3) := HBK.out.cell 2
      go_wp2_with fail
      rw [sigU_a]
      refine (wput_any A allErrs H1 H4 7 3 _ (allA i s) (allS i) w2 (HF.out _ HBB.out) HAR.out HFIT.out (by rw [allS_size]; omega) (by rw [allA_length]; omega)).mono ?_
      rintro e w3 ⟨v3, rfl, hs3, hb3⟩
      have HB3 := Lib.hid (HBB.out.trans (hb3.mono HBB.out.size))
      have HAR3 := Lib.hid (HAR.out.below hb3)
      have HBK3 := Lib.hid (HBK.out.below hb3 HBK.out.lt)
      have hpr : putR 7 3 (allA i s) (allS i) = putB 7 3 (allA i s) := by unfold putR; rw [if_pos HPE.out]
      rw [hpr] at hs3
      have HS3 := Lib.hid hs3
      obtain ⟨_, A4, c4, rfl, _⟩ := hs3
      rw [bv_length, HP1.out] at HS3 ⊢
      rw [HPE.out, errV_zero]
      clear hb3 hpr gm0 gm1 gm2
      obtain ⟨q, hq⟩ : ∃ q, q = 12 + 4 * i + fillN s.size := ⟨_, rfl⟩
      have HS3 : Hid (SlN w3 w3.heap.size 1 (.slice A4 q c4) q (bv (putB 7 3 (allA i s)))) := by
        have h := HS3.out
        unfold Sl at h
        rw [bv_length, HP1.out, ← hq] at h
        exact h
      have hq2 : ((s.size : Int) + 3).tdiv 4 * 4 = (fillN s.size : Int) := by
        rw [Int.tdiv_eq_ediv_of_nonneg (by omega)]
        unfold fillN; omega
      have hf := fillN_lt s.size
      go_wp2_with fail
      have hqq : (8 : Int) + 4 * (i : Int) + 4 + (fillN s.size : Int) = ((q : Nat) : Int) := by omega
      rw [hqq, ← hq]
      refine (head_any A allErrs _ _ _ HS3.out.toSl (HF.out _ HB3.out) H2 H3 H4).mono ?_
      rintro e w4 ⟨rfl, hb4⟩
      have HB4 := Lib.hid (HB3.out.trans (hb4.mono HB3.out.size))
      have HAR4 := Lib.hid (HAR3.out.below hb4)
      have HBK4 := Lib.hid (HBK3.out.below hb4 HBK3.out.lt)
      have gm0 : w4.cell? ⟨g, 0, none⟩ = some (.int .i64 7) := HBK4.out.cell 0
      have gm1 : w4.cell? ⟨g, 1, none⟩ = some (.int .i64 3) := HBK4.out.cell 1
      have gm2 : w4.cell? ⟨g, 2, none⟩ = some (.slice A3 (i + 1) c3) := HBK4.out.cell 2
      rw [HP2.out, HP3.out, errV_zero, ← hq]
      clear hb4 hqq hq2 hf
      go_wp2_with fail
      refine (wput_any A allErrs H1 H4 7 3 _ (allA i s) (sigU i) w4 (HF.out _ HB4.out) HAR4.out HFIT.out (by rw [sigU_size]; omega) (by rw [allA_length]; omega)).mono ?_
      rintro e w5 ⟨v5, rfl, hs5, hb5⟩
      have HB5 := Lib.hid (HB4.out.trans (hb5.mono HB4.out.size))
      rw [HBAD.out]
      clear hb5 gm0 gm1 gm2 hs5
      go_wp2_with fail
      refine (kind_any A 1 (by omega) w5 (HF.out _ HB5.out)).mono ?_
      rintro e w6 ⟨rfl, hb6⟩
      have HB6 := Lib.hid (HB5.out.trans (hb6.mono HB5.out.size))
      clear hb6
      go_wp2_with fail
      refine (w4awake_any A allErrs H1 H4 w6 (HF.out _ HB6.out)).mono ?_
      rintro e w7 ⟨rfl, hb7⟩
      go_wp2
      go_ret
      exact ⟨rfl, HB6.out.trans (hb7.mono HB6.out.size)⟩
end Go.Proofs.YtihbgkighckiiaaDoor
