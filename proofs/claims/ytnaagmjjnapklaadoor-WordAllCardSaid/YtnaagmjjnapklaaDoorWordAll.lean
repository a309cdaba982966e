/- The walk over tableaulaw01.WordAll. Printed by gen_wordall.py. -/
import Derived.Test.YtnaagmjjnapklaaDoorWAllL
import Derived.Test.YtnaagmjjnapklaaDoorKind
import Derived.Test.YtnaagmjjnapklaaDoorRelG
import Derived.Deep.CutBlock
import Derived.OpenShut
import Derived.Deep.CutRange
namespace Go.Proofs.YtnaagmjjnapklaaDoor
open Go.RowKit
set_option maxRecDepth 100000
set_option linter.unusedVariables false

def AllV (x n fx vz : Int) (g2 nb c2 cb : Nat) (Ab : Option Addr) (s X1 X2 X3 XB P1 P2 P3 : ByteArray) (i : Nat) : Value := ([.slice (some ⟨g2, 0, none⟩) nb c2, .int .u32 x, undef, .string X1, .slice Ab nb cb, .string XB, .int .u32 x, undef, .string P1, .string X1, .bool false, .bool false, .slice (some ⟨g2, 0, none⟩) nb c2, .string s, undef, .string X2, .slice Ab nb cb, .string XB, .string s, undef, .string P2, .string X2, .bool false, .bool false, .bool false, .slice (some ⟨g2, 0, none⟩) nb c2, .string s, undef, .string X3, .slice Ab nb cb, .string XB, .string s, undef, .string P3, .string X3, .bool false, .bool false, .bool false, .int .i64 n, .int .i32 fx, .int .i64 n, .int .i32 fx, .bool false, .bool false, .bool false, .int .u32 x, .int .i32 vz, .int .i64 (vz / 256), .int .u32 x, .int .i32 vz, .int .i64 (vz / 256), .bool false, .bool false] : List Value).getD i undef
def AllR (x n fx vz : Int) (g2 nb c2 cb : Nat) (Ab : Option Addr) (s X1 X2 X3 XB P1 P2 P3 : ByteArray) (bs : List UInt8) (i : Nat) (v : Value) (w : World) : Prop :=
  match i with
  | 2 => Sl w w.heap.size v (bv (bs ++ le4 x))
  | 7 => Sl w w.heap.size v (bv (le4 x))
  | 14 => Sl w w.heap.size v (bv (bs ++ encB (s.data.toList ++ [0])))
  | 19 => Sl w w.heap.size v (bv (encB (s.data.toList ++ [0])))
  | 27 => Sl w w.heap.size v (bv (bs ++ encB s.data.toList))
  | 32 => Sl w w.heap.size v (bv (encB s.data.toList))
  | j => v = AllV x n fx vz g2 nb c2 cb Ab s X1 X2 X3 XB P1 P2 P3 j
theorem all_keep {x n fx vz : Int} {g2 nb c2 cb : Nat} {Ab : Option Addr} {s X1 X2 X3 XB P1 P2 P3 : ByteArray} {bs : List UInt8} {w w' : World} (hb : Below w.heap.size w w') (j : Nat) (u : Value) (h : AllR x n fx vz g2 nb c2 cb Ab s X1 X2 X3 XB P1 P2 P3 bs j u w) : AllR x n fx vz g2 nb c2 cb Ab s X1 X2 X3 XB P1 P2 P3 bs j u w' := by
  unfold AllR at h ⊢
  split at h
  all_goals first | exact SlN.more (SlN.below h hb) hb.size | exact h
theorem strB_app (a b : List UInt8) : strB a ++ strB b = strB (a ++ b) := by simp [strB, ByteArray.ext_iff]
theorem i32_of (x : Int) (h0 : 0 ≤ x) (h1 : x < 4294967296) : ∃ z, IntKind.i32.wrap x = z ∧ -2147483648 ≤ z ∧ z < 2147483648 := by
  refine ⟨_, rfl, ?_, ?_⟩
  all_goals (simp only [IntKind.wrap]; first | omega | (simp; omega) | (simp [IntKind.bits, IntKind.signed]; omega))
set_option maxHeartbeats 1000000 in
theorem wordall_walk (A : Nat → Addr) (vb : Value) (bs : List UInt8) (x : Int) (s : ByteArray) (at_ n : Int) (w : World) (hE : Errs w w.heap.size allErrs A) (hvb : Sl w w.heap.size vb (bv bs) ∧ bs.length ≤ 140737488351232) (hx : (Lit.int .u32 x).wf = true) (hsz : s.size ≤ 140737488351232)
    (hat : (Lit.int .i64 at_).wf = true) (hn : (Lit.int .i64 n).wf = true) :
    Calls Tryd.prog 7 #[vb, .int .u32 x, .string s, .int .i64 at_, .int .i64 n] w fun e w' => e = .returned (.bool true) ∧ Below w.heap.size w w' := by
  obtain ⟨x0, x1⟩ := bounds_u32 hx
  replace x1 : x < 4294967296 := by omega
  obtain ⟨hvb, hbl⟩ := hvb
  have H1 : (1 : Nat) ∈ allErrs := by decide
  have H2 : (2 : Nat) ∈ allErrs := by decide
  have H3 : (3 : Nat) ∈ allErrs := by decide
  have H4 : (4 : Nat) ∈ allErrs := by decide
  have HE := Lib.hid hE
  have HS0 := Lib.hid hvb
  obtain ⟨_, Ab, cb, rfl, _⟩ := hvb
  obtain ⟨nb, hnb⟩ : ∃ nb, nb = (bv bs).length := ⟨_, rfl⟩
  have HB0 : Hid (SlN w w.heap.size 1 (.slice Ab nb cb) nb (bv bs)) := by
    have := HS0.out
    unfold Sl at this
    rw [← hnb] at this
    exact this
  rw [← hnb]
  have hnb' : nb ≤ 140737488351232 := by rw [hnb, bv_length]; exact hbl
  have HNB : Hid (nb = bs.length) := by show _ = _; rw [hnb, bv_length]
  clear hnb hE HS0 hx hat hn hsz
  by_cases hs : 5000 < s.size
  · have hd : decide (5000 < (s.size : Int)) = true := by simp; omega
    go_enter Tryd.func7, Tryd.ntmps7
    go_wp2_with fail
    refine (wawake_any _).mono ?_
    rintro e w1 ⟨rfl, hb⟩
    go_wp2_with fail
    go_ret
    exact ⟨rfl, hb⟩
  · have hd : decide (5000 < (s.size : Int)) = false := by simp; omega
    have hs5 : s.size ≤ 5000 := by omega
    clear hs
    go_enter Tryd.func7, Tryd.ntmps7
    go_upto_region 3 with (fail)
    go_upto_region 4 with (
      at_builtin
      first
      | (have hR' := hR
         refine wpList_app rfl _ _ _ _ rfl _ _ rfl rfl _ (wa_99 _ hR' hnb') ?_
         intro v2 w2 hR2
         obtain ⟨g2, c2, rfl, hc2⟩ := own_some hR2.out.1)
      | (refine wpList_app rfl _ _ _ _ rfl _ _ rfl rfl _ (wa_cp _ HB0.out hnb') ?_
         intro v1 w1 hR
         obtain ⟨A1, c1, rfl, hc1, _⟩ := own_form hR.out.1))
    have HS2 := Lib.hid (SlN.of_own hR2.out.1)
    have HB2 := Lib.hid hR2.out.2
    have HVC : Hid (SlN w2 w2.heap.size 1 (.slice (some ⟨g2, 0, none⟩) nb c2) nb (bv bs)) := by
      have := SlN.take_ HS2.out (Nat.le_succ nb)
      rw [List.take_append_of_le_length (by rw [bv_length, HNB.out]; exact Nat.le_refl _), List.take_of_length_le (by rw [bv_length, HNB.out]; exact Nat.le_refl _)] at this
      exact this
    have HVB : Hid (SlN w2 w2.heap.size 1 (.slice Ab nb cb) nb (bv bs)) := SlN.more (SlN.below HB0.out HB2.out) HB2.out.size
    have HNB2 : Hid (bs.length ≤ 140737488351232) := hbl
    clear hR hR2
    obtain ⟨XB, hXB⟩ : ∃ X, X = strB bs := ⟨_, rfl⟩
    obtain ⟨X1, hX1⟩ : ∃ X, X = strB (bs ++ le4 x) := ⟨_, rfl⟩
    obtain ⟨X2, hX2⟩ : ∃ X, X = strB (bs ++ encB (s.data.toList ++ [0])) := ⟨_, rfl⟩
    obtain ⟨X3, hX3⟩ : ∃ X, X = strB (bs ++ encB s.data.toList) := ⟨_, rfl⟩
    obtain ⟨P1, hP1⟩ : ∃ X, X = strB (le4 x) := ⟨_, rfl⟩
    obtain ⟨P2, hP2⟩ : ∃ X, X = strB (encB (s.data.toList ++ [0])) := ⟨_, rfl⟩
    obtain ⟨P3, hP3⟩ : ∃ X, X = strB (encB s.data.toList) := ⟨_, rfl⟩
    have hq1 : XB ++ P1 = X1 := by rw [hXB, hP1, hX1, strB_app]
    have hq2 : XB ++ P2 = X2 := by rw [hXB, hP2, hX2, strB_app]
    have hq3 : XB ++ P3 = X3 := by rw [hXB, hP3, hX3, strB_app]
    have hzb : XB.size = bs.length := by rw [hXB]; simp [strB, ByteArray.size]
    have hsl : s.data.toList.length = s.size := by rw [Array.length_toList]; rfl
    have hz1 : XB.size + P1.size ≤ 9223372036854775807 := by
      have : P1.size = 4 := by rw [hP1]; rfl
      omega
    have hz2 : XB.size + P2.size ≤ 9223372036854775807 := by
      have h1 : P2.size = (encB (s.data.toList ++ [0])).length := by rw [hP2]; simp [strB, ByteArray.size]
      have h2 := encB_length (s.data.toList ++ [0])
      have h3 := fillN_lt (s.data.toList ++ [0]).length
      rw [List.length_append, hsl] at h2 h3
      simp only [List.length_cons, List.length_nil] at h2 h3
      omega
    have hz3 : XB.size + P3.size ≤ 9223372036854775807 := by
      have h1 : P3.size = (encB s.data.toList).length := by rw [hP3]; simp [strB, ByteArray.size]
      have h2 := encB_length s.data.toList
      have h3 := fillN_lt s.data.toList.length
      rw [hsl] at h2 h3
      omega
    have HXB := Lib.hid hXB
    have HX1 := Lib.hid hX1
    have HX2 := Lib.hid hX2
    have HX3 := Lib.hid hX3
    have HP1 := Lib.hid hP1
    have HP2 := Lib.hid hP2
    have HP3 := Lib.hid hP3
    obtain ⟨vz, hvz, z0, z1⟩ := i32_of x x0 x1
    obtain ⟨fx, hfx⟩ : ∃ X, X = fixI n := ⟨_, rfl⟩
    have HFX := Lib.hid hfx
    clear hXB hX1 hX2 hX3 hP1 hP2 hP3 hzb hsl hfx
    have hfn : ∀ f : FuncId, (f = 8 ∨ f = 13 ∨ f = 12 ∨ f = 18 ∨ f = 19 ∨ f = 20 ∨ f = 21 ∨ f = 22 ∨ f = 23 ∨ f = 24) → ∀ args w, (callFunc f args).run Tryd.prog w = .ok (.enter f args) w := by
      rintro f (rfl | rfl | rfl | rfl | rfl | rfl | rfl | rfl | rfl | rfl) args w <;> kernel_rfl
    refine wp_region_rel (fun w' => Below w2.heap.size w2 w') (AllR x n fx vz g2 nb c2 cb Ab s X1 X2 X3 XB P1 P2 P3 bs) (by kernel_rfl) (by kernel_rfl) (by kernel_rfl) (below_drewN (Below.refl _ _) 1) ?_ ?_
    · refine allSteps_cons ?_ (allSteps_cons ?_ (allSteps_cons ?_ (allSteps_cons ?_ (allSteps_cons ?_ (allSteps_cons ?_ (allSteps_cons ?_ (allSteps_cons ?_ (allSteps_cons ?_ (allSteps_cons ?_ (allSteps_cons ?_ (allSteps_cons ?_ (allSteps_cons ?_ (allSteps_cons ?_ (allSteps_cons ?_ (allSteps_cons ?_ (allSteps_cons ?_ (allSteps_cons ?_ (allSteps_cons ?_ (allSteps_cons ?_ (allSteps_cons ?_ (allSteps_cons ?_ (allSteps_cons ?_ (allSteps_cons ?_ (allSteps_cons ?_ (allSteps_cons ?_ (allSteps_cons ?_ (allSteps_cons ?_ (allSteps_cons ?_ (allSteps_cons ?_ (allSteps_cons ?_ (allSteps_cons ?_ (allSteps_cons ?_ (allSteps_cons ?_ (allSteps_cons ?_ (allSteps_cons ?_ (allSteps_cons ?_ (allSteps_cons ?_ (allSteps_cons ?_ (allSteps_cons ?_ (allSteps_cons ?_ (allSteps_cons ?_ (allSteps_cons ?_ (allSteps_cons ?_ (allSteps_cons ?_ (allSteps_cons ?_ (allSteps_cons ?_ (allSteps_cons ?_ (allSteps_cons ?_ (allSteps_cons ?_ (allSteps_cons ?_ (allSteps_cons ?_ (allSteps_cons ?_ (allSteps_nil)))))))))))))))))))))))))))))))))))))))))))))))))))))
      · intro a wx hC hE hD
        have e : a.eval (.tmp 11) = .slice (some ⟨g2, 0, none⟩) nb c2 := hE 11 (by kernel_rfl)
        refine rel_value (v := .slice (some ⟨g2, 0, none⟩) nb c2) rfl rfl ?_ hC rfl (fun _ _ h => h)
        generalize a.eval = ρ at e ⊢
        simp [execOp, go_sem, e]
      · intro a wx hC hE hD
        have e : a.eval (.tmp 1) = .int .u32 x := hE 1 (by kernel_rfl)
        refine rel_value (v := .int .u32 x) rfl rfl ?_ hC rfl (fun _ _ h => h)
        generalize a.eval = ρ at e ⊢
        simp [execOp, go_sem, e]
      · intro a wx hC hE hD
        obtain ⟨v0, e1, hR0⟩ := rel_dep (d := 39) rfl (hD 0 _ rfl (by kernel_rfl))
        have hR0' : v0 = .slice (some ⟨g2, 0, none⟩) nb c2 := hR0
        subst hR0'
        clear hR0
        obtain ⟨v1, e2, hR1⟩ := rel_dep (d := 40) rfl (hD 1 _ rfl (by kernel_rfl))
        have hR1' : v1 = .int .u32 x := hR1
        subst hR1'
        clear hR1
        refine rel_call rfl rfl (exec_call2 rfl e1 e2 (hfn 8 (by simp))) ((put_any _ bs x wx (SlN.toSl (SlN.more (SlN.below HVC.out hC) hC.size)) (by omega) x0 x1).mono ?_)
        rintro e2 w2 ⟨v', rfl, hown, hb2⟩
        exact ⟨v', rfl, hC.trans (hb2.mono hC.size), Sl.of_own hown, all_keep hb2⟩
      · intro a wx hC hE hD
        obtain ⟨v2, e, hR2⟩ := rel_dep (d := 41) rfl (hD 2 _ rfl (by kernel_rfl))
        have hS : Sl wx wx.heap.size v2 (bv (bs ++ le4 x)) := hR2
        have hcv := conv_str Tryd.underlying23 Tryd.underlying5 Tryd.underlying9 hS
        rw [← HX1.out] at hcv
        refine rel_value (v := .string X1) rfl rfl ?_ hC rfl (fun _ _ h => h)
        generalize a.eval = ρ at e ⊢
        simp [execOp, go_sem, e, hcv]
      · intro a wx hC hE hD
        have e : a.eval (.tmp 0) = .slice Ab nb cb := hE 0 (by kernel_rfl)
        refine rel_value (v := .slice Ab nb cb) rfl rfl ?_ hC rfl (fun _ _ h => h)
        generalize a.eval = ρ at e ⊢
        simp [execOp, go_sem, e]
      · intro a wx hC hE hD
        obtain ⟨v4, e, hR4⟩ := rel_dep (d := 43) rfl (hD 4 _ rfl (by kernel_rfl))
        have hR4' : v4 = .slice Ab nb cb := hR4
        subst hR4'
        clear hR4
        have hcv := conv_str Tryd.underlying23 Tryd.underlying5 Tryd.underlying9 (SlN.more (SlN.below HVB.out hC) hC.size)
        rw [← HXB.out] at hcv
        refine rel_value (v := .string XB) rfl rfl ?_ hC rfl (fun _ _ h => h)
        generalize a.eval = ρ at e ⊢
        simp [execOp, go_sem, e, hcv]
      · intro a wx hC hE hD
        have e : a.eval (.tmp 1) = .int .u32 x := hE 1 (by kernel_rfl)
        refine rel_value (v := .int .u32 x) rfl rfl ?_ hC rfl (fun _ _ h => h)
        generalize a.eval = ρ at e ⊢
        simp [execOp, go_sem, e]
      · intro a wx hC hE hD
        obtain ⟨v6, e, hR6⟩ := rel_dep (d := 45) rfl (hD 6 _ rfl (by kernel_rfl))
        have hR6' : v6 = .int .u32 x := hR6
        subst hR6'
        clear hR6
        refine rel_call rfl rfl (exec_call1 rfl e (hfn 18 (by simp))) ((rput_any x wx x0 x1).mono ?_)
        rintro e2 w2 ⟨rfl, hblk, hb2⟩
        exact ⟨_, rfl, hC.trans (hb2.mono hC.size), Sl.of_own (own_blk hblk (Nat.le_refl _) (by rw [bv_length]; rfl) (by unfold maxLen; omega)), all_keep hb2⟩
      · intro a wx hC hE hD
        obtain ⟨v7, e, hR7⟩ := rel_dep (d := 46) rfl (hD 7 _ rfl (by kernel_rfl))
        have hS : Sl wx wx.heap.size v7 (bv (le4 x)) := hR7
        have hcv := conv_str Tryd.underlying23 Tryd.underlying5 Tryd.underlying9 hS
        rw [← HP1.out] at hcv
        refine rel_value (v := .string P1) rfl rfl ?_ hC rfl (fun _ _ h => h)
        generalize a.eval = ρ at e ⊢
        simp [execOp, go_sem, e, hcv]
      · intro a wx hC hE hD
        obtain ⟨v5, e1, hR5⟩ := rel_dep (d := 44) rfl (hD 5 _ rfl (by kernel_rfl))
        have hR5' : v5 = .string XB := hR5
        subst hR5'
        clear hR5
        obtain ⟨v8, e2, hR8⟩ := rel_dep (d := 47) rfl (hD 8 _ rfl (by kernel_rfl))
        have hR8' : v8 = .string P1 := hR8
        subst hR8'
        clear hR8
        refine rel_value (v := .string X1) rfl rfl ?_ hC rfl (fun _ _ h => h)
        generalize a.eval = ρ at e1 e2 ⊢
        simp [execOp, go_sem, e1, e2, hz1, hq1]
      · intro a wx hC hE hD
        obtain ⟨v3, e1, hR3⟩ := rel_dep (d := 42) rfl (hD 3 _ rfl (by kernel_rfl))
        have hR3' : v3 = .string X1 := hR3
        subst hR3'
        clear hR3
        obtain ⟨v9, e2, hR9⟩ := rel_dep (d := 48) rfl (hD 9 _ rfl (by kernel_rfl))
        have hR9' : v9 = .string X1 := hR9
        subst hR9'
        clear hR9
        refine rel_value (v := .bool false) rfl rfl ?_ hC rfl (fun _ _ h => h)
        generalize a.eval = ρ at e1 e2 ⊢
        simp [execOp, go_sem, e1, e2]
      · intro a wx hC hE hD
        obtain ⟨v10, e, hR10⟩ := rel_dep (d := 49) rfl (hD 10 _ rfl (by kernel_rfl))
        have hR10' : v10 = .bool false := hR10
        subst hR10'
        clear hR10
        refine rel_value (v := .bool false) rfl rfl ?_ hC rfl (fun _ _ h => h)
        generalize a.eval = ρ at e ⊢
        simp [execOp, go_sem, e]
      · intro a wx hC hE hD
        obtain ⟨v11, eg, hR11⟩ := rel_dep (d := 50) rfl (hD 11 _ rfl (by kernel_rfl))
        have hR11' : v11 = .bool false := hR11
        subst hR11'
        clear hR11
        have e : a.eval (.tmp 11) = .slice (some ⟨g2, 0, none⟩) nb c2 := hE 11 (by kernel_rfl)
        refine rel_value_w (v := .slice (some ⟨g2, 0, none⟩) nb c2) rfl (wanted_of (b := false) rfl rfl rfl eg) ?_ hC rfl (fun _ _ h => h)
        clear eg
        generalize a.eval = ρ at e ⊢
        simp [execOp, go_sem, e]
      · intro a wx hC hE hD
        obtain ⟨v11, eg, hR11⟩ := rel_dep (d := 50) rfl (hD 11 _ rfl (by kernel_rfl))
        have hR11' : v11 = .bool false := hR11
        subst hR11'
        clear hR11
        have e : a.eval (.tmp 2) = .string s := hE 2 (by kernel_rfl)
        refine rel_value_w (v := .string s) rfl (wanted_of (b := false) rfl rfl rfl eg) ?_ hC rfl (fun _ _ h => h)
        clear eg
        generalize a.eval = ρ at e ⊢
        simp [execOp, go_sem, e]
      · intro a wx hC hE hD
        obtain ⟨v11, eg, hR11⟩ := rel_dep (d := 50) rfl (hD 11 _ rfl (by kernel_rfl))
        have hR11' : v11 = .bool false := hR11
        subst hR11'
        clear hR11
        obtain ⟨v12, e1, hR12⟩ := rel_dep (d := 51) rfl (hD 12 _ rfl (by kernel_rfl))
        have hR12' : v12 = .slice (some ⟨g2, 0, none⟩) nb c2 := hR12
        subst hR12'
        clear hR12
        obtain ⟨v13, e2, hR13⟩ := rel_dep (d := 52) rfl (hD 13 _ rfl (by kernel_rfl))
        have hR13' : v13 = .string s := hR13
        subst hR13'
        clear hR13
        refine rel_call_w rfl (wanted_of (b := false) rfl rfl rfl eg) (exec_call2 rfl e1 e2 (hfn 13 (by simp))) ((putText_any _ bs s wx (SlN.toSl (SlN.more (SlN.below HVC.out hC) hC.size)) (by omega) (by omega)).mono ?_)
        rintro e2 w2 ⟨v', rfl, hown, hb2⟩
        exact ⟨v', rfl, hC.trans (hb2.mono hC.size), Sl.of_own hown, all_keep hb2⟩
      · intro a wx hC hE hD
        obtain ⟨v11, eg, hR11⟩ := rel_dep (d := 50) rfl (hD 11 _ rfl (by kernel_rfl))
        have hR11' : v11 = .bool false := hR11
        subst hR11'
        clear hR11
        obtain ⟨v14, e, hR14⟩ := rel_dep (d := 53) rfl (hD 14 _ rfl (by kernel_rfl))
        have hS : Sl wx wx.heap.size v14 (bv (bs ++ encB (s.data.toList ++ [0]))) := hR14
        have hcv := conv_str Tryd.underlying23 Tryd.underlying5 Tryd.underlying9 hS
        rw [← HX2.out] at hcv
        refine rel_value_w (v := .string X2) rfl (wanted_of (b := false) rfl rfl rfl eg) ?_ hC rfl (fun _ _ h => h)
        clear eg
        generalize a.eval = ρ at e ⊢
        simp [execOp, go_sem, e, hcv]
      · intro a wx hC hE hD
        obtain ⟨v11, eg, hR11⟩ := rel_dep (d := 50) rfl (hD 11 _ rfl (by kernel_rfl))
        have hR11' : v11 = .bool false := hR11
        subst hR11'
        clear hR11
        have e : a.eval (.tmp 0) = .slice Ab nb cb := hE 0 (by kernel_rfl)
        refine rel_value_w (v := .slice Ab nb cb) rfl (wanted_of (b := false) rfl rfl rfl eg) ?_ hC rfl (fun _ _ h => h)
        clear eg
        generalize a.eval = ρ at e ⊢
        simp [execOp, go_sem, e]
      · intro a wx hC hE hD
        obtain ⟨v11, eg, hR11⟩ := rel_dep (d := 50) rfl (hD 11 _ rfl (by kernel_rfl))
        have hR11' : v11 = .bool false := hR11
        subst hR11'
        clear hR11
        obtain ⟨v16, e, hR16⟩ := rel_dep (d := 55) rfl (hD 16 _ rfl (by kernel_rfl))
        have hR16' : v16 = .slice Ab nb cb := hR16
        subst hR16'
        clear hR16
        have hcv := conv_str Tryd.underlying23 Tryd.underlying5 Tryd.underlying9 (SlN.more (SlN.below HVB.out hC) hC.size)
        rw [← HXB.out] at hcv
        refine rel_value_w (v := .string XB) rfl (wanted_of (b := false) rfl rfl rfl eg) ?_ hC rfl (fun _ _ h => h)
        clear eg
        generalize a.eval = ρ at e ⊢
        simp [execOp, go_sem, e, hcv]
      · intro a wx hC hE hD
        obtain ⟨v11, eg, hR11⟩ := rel_dep (d := 50) rfl (hD 11 _ rfl (by kernel_rfl))
        have hR11' : v11 = .bool false := hR11
        subst hR11'
        clear hR11
        have e : a.eval (.tmp 2) = .string s := hE 2 (by kernel_rfl)
        refine rel_value_w (v := .string s) rfl (wanted_of (b := false) rfl rfl rfl eg) ?_ hC rfl (fun _ _ h => h)
        clear eg
        generalize a.eval = ρ at e ⊢
        simp [execOp, go_sem, e]
      · intro a wx hC hE hD
        obtain ⟨v11, eg, hR11⟩ := rel_dep (d := 50) rfl (hD 11 _ rfl (by kernel_rfl))
        have hR11' : v11 = .bool false := hR11
        subst hR11'
        clear hR11
        obtain ⟨v18, e, hR18⟩ := rel_dep (d := 57) rfl (hD 18 _ rfl (by kernel_rfl))
        have hR18' : v18 = .string s := hR18
        subst hR18'
        clear hR18
        refine rel_call_w rfl (wanted_of (b := false) rfl rfl rfl eg) (exec_call1 rfl e (hfn 19 (by simp))) ((rputText_any s wx (by omega)).mono ?_)
        rintro e2 w2 ⟨v', rfl, hown, hb2⟩
        exact ⟨v', rfl, hC.trans (hb2.mono hC.size), Sl.of_own hown, all_keep hb2⟩
      · intro a wx hC hE hD
        obtain ⟨v11, eg, hR11⟩ := rel_dep (d := 50) rfl (hD 11 _ rfl (by kernel_rfl))
        have hR11' : v11 = .bool false := hR11
        subst hR11'
        clear hR11
        obtain ⟨v19, e, hR19⟩ := rel_dep (d := 58) rfl (hD 19 _ rfl (by kernel_rfl))
        have hS : Sl wx wx.heap.size v19 (bv (encB (s.data.toList ++ [0]))) := hR19
        have hcv := conv_str Tryd.underlying23 Tryd.underlying5 Tryd.underlying9 hS
        rw [← HP2.out] at hcv
        refine rel_value_w (v := .string P2) rfl (wanted_of (b := false) rfl rfl rfl eg) ?_ hC rfl (fun _ _ h => h)
        clear eg
        generalize a.eval = ρ at e ⊢
        simp [execOp, go_sem, e, hcv]
      · intro a wx hC hE hD
        obtain ⟨v11, eg, hR11⟩ := rel_dep (d := 50) rfl (hD 11 _ rfl (by kernel_rfl))
        have hR11' : v11 = .bool false := hR11
        subst hR11'
        clear hR11
        obtain ⟨v17, e1, hR17⟩ := rel_dep (d := 56) rfl (hD 17 _ rfl (by kernel_rfl))
        have hR17' : v17 = .string XB := hR17
        subst hR17'
        clear hR17
        obtain ⟨v20, e2, hR20⟩ := rel_dep (d := 59) rfl (hD 20 _ rfl (by kernel_rfl))
        have hR20' : v20 = .string P2 := hR20
        subst hR20'
        clear hR20
        refine rel_value_w (v := .string X2) rfl (wanted_of (b := false) rfl rfl rfl eg) ?_ hC rfl (fun _ _ h => h)
        clear eg
        generalize a.eval = ρ at e1 e2 ⊢
        simp [execOp, go_sem, e1, e2, hz2, hq2]
      · intro a wx hC hE hD
        obtain ⟨v11, eg, hR11⟩ := rel_dep (d := 50) rfl (hD 11 _ rfl (by kernel_rfl))
        have hR11' : v11 = .bool false := hR11
        subst hR11'
        clear hR11
        obtain ⟨v15, e1, hR15⟩ := rel_dep (d := 54) rfl (hD 15 _ rfl (by kernel_rfl))
        have hR15' : v15 = .string X2 := hR15
        subst hR15'
        clear hR15
        obtain ⟨v21, e2, hR21⟩ := rel_dep (d := 60) rfl (hD 21 _ rfl (by kernel_rfl))
        have hR21' : v21 = .string X2 := hR21
        subst hR21'
        clear hR21
        refine rel_value_w (v := .bool false) rfl (wanted_of (b := false) rfl rfl rfl eg) ?_ hC rfl (fun _ _ h => h)
        clear eg
        generalize a.eval = ρ at e1 e2 ⊢
        simp [execOp, go_sem, e1, e2]
      · intro a wx hC hE hD
        obtain ⟨v11, e1, hR11⟩ := rel_dep (d := 50) rfl (hD 11 _ rfl (by kernel_rfl))
        have hR11' : v11 = .bool false := hR11
        subst hR11'
        clear hR11
        obtain ⟨v22, e2, hR22⟩ := rel_dep (d := 61) rfl (hD 22 _ rfl (by kernel_rfl))
        have hR22' : v22 = .bool false := hR22
        subst hR22'
        clear hR22
        have e3 : a.eval (.const (.bool true)) = .bool true := rfl
        refine rel_value (v := .bool false) rfl rfl ?_ hC rfl (fun _ _ h => h)
        generalize a.eval = ρ at e1 e2 e3 ⊢
        simp [execOp, go_sem, e1, e2, e3]
      · intro a wx hC hE hD
        obtain ⟨v23, e, hR23⟩ := rel_dep (d := 62) rfl (hD 23 _ rfl (by kernel_rfl))
        have hR23' : v23 = .bool false := hR23
        subst hR23'
        clear hR23
        refine rel_value (v := .bool false) rfl rfl ?_ hC rfl (fun _ _ h => h)
        generalize a.eval = ρ at e ⊢
        simp [execOp, go_sem, e]
      · intro a wx hC hE hD
        obtain ⟨v24, eg, hR24⟩ := rel_dep (d := 63) rfl (hD 24 _ rfl (by kernel_rfl))
        have hR24' : v24 = .bool false := hR24
        subst hR24'
        clear hR24
        have e : a.eval (.tmp 11) = .slice (some ⟨g2, 0, none⟩) nb c2 := hE 11 (by kernel_rfl)
        refine rel_value_w (v := .slice (some ⟨g2, 0, none⟩) nb c2) rfl (wanted_of (b := false) rfl rfl rfl eg) ?_ hC rfl (fun _ _ h => h)
        clear eg
        generalize a.eval = ρ at e ⊢
        simp [execOp, go_sem, e]
      · intro a wx hC hE hD
        obtain ⟨v24, eg, hR24⟩ := rel_dep (d := 63) rfl (hD 24 _ rfl (by kernel_rfl))
        have hR24' : v24 = .bool false := hR24
        subst hR24'
        clear hR24
        have e : a.eval (.tmp 2) = .string s := hE 2 (by kernel_rfl)
        refine rel_value_w (v := .string s) rfl (wanted_of (b := false) rfl rfl rfl eg) ?_ hC rfl (fun _ _ h => h)
        clear eg
        generalize a.eval = ρ at e ⊢
        simp [execOp, go_sem, e]
      · intro a wx hC hE hD
        obtain ⟨v24, eg, hR24⟩ := rel_dep (d := 63) rfl (hD 24 _ rfl (by kernel_rfl))
        have hR24' : v24 = .bool false := hR24
        subst hR24'
        clear hR24
        obtain ⟨v25, e1, hR25⟩ := rel_dep (d := 64) rfl (hD 25 _ rfl (by kernel_rfl))
        have hR25' : v25 = .slice (some ⟨g2, 0, none⟩) nb c2 := hR25
        subst hR25'
        clear hR25
        obtain ⟨v26, e2, hR26⟩ := rel_dep (d := 65) rfl (hD 26 _ rfl (by kernel_rfl))
        have hR26' : v26 = .string s := hR26
        subst hR26'
        clear hR26
        refine rel_call_w rfl (wanted_of (b := false) rfl rfl rfl eg) (exec_call2 rfl e1 e2 (hfn 12 (by simp))) ((putList_any _ bs s wx (SlN.toSl (SlN.more (SlN.below HVC.out hC) hC.size)) (by omega) (by omega)).mono ?_)
        rintro e2 w2 ⟨v', rfl, hown, hb2⟩
        exact ⟨v', rfl, hC.trans (hb2.mono hC.size), Sl.of_own hown, all_keep hb2⟩
      · intro a wx hC hE hD
        obtain ⟨v24, eg, hR24⟩ := rel_dep (d := 63) rfl (hD 24 _ rfl (by kernel_rfl))
        have hR24' : v24 = .bool false := hR24
        subst hR24'
        clear hR24
        obtain ⟨v27, e, hR27⟩ := rel_dep (d := 66) rfl (hD 27 _ rfl (by kernel_rfl))
        have hS : Sl wx wx.heap.size v27 (bv (bs ++ encB s.data.toList)) := hR27
        have hcv := conv_str Tryd.underlying23 Tryd.underlying5 Tryd.underlying9 hS
        rw [← HX3.out] at hcv
        refine rel_value_w (v := .string X3) rfl (wanted_of (b := false) rfl rfl rfl eg) ?_ hC rfl (fun _ _ h => h)
        clear eg
        generalize a.eval = ρ at e ⊢
        simp [execOp, go_sem, e, hcv]
      · intro a wx hC hE hD
        obtain ⟨v24, eg, hR24⟩ := rel_dep (d := 63) rfl (hD 24 _ rfl (by kernel_rfl))
        have hR24' : v24 = .bool false := hR24
        subst hR24'
        clear hR24
        have e : a.eval (.tmp 0) = .slice Ab nb cb := hE 0 (by kernel_rfl)
        refine rel_value_w (v := .slice Ab nb cb) rfl (wanted_of (b := false) rfl rfl rfl eg) ?_ hC rfl (fun _ _ h => h)
        clear eg
        generalize a.eval = ρ at e ⊢
        simp [execOp, go_sem, e]
      · intro a wx hC hE hD
        obtain ⟨v24, eg, hR24⟩ := rel_dep (d := 63) rfl (hD 24 _ rfl (by kernel_rfl))
        have hR24' : v24 = .bool false := hR24
        subst hR24'
        clear hR24
        obtain ⟨v29, e, hR29⟩ := rel_dep (d := 68) rfl (hD 29 _ rfl (by kernel_rfl))
        have hR29' : v29 = .slice Ab nb cb := hR29
        subst hR29'
        clear hR29
        have hcv := conv_str Tryd.underlying23 Tryd.underlying5 Tryd.underlying9 (SlN.more (SlN.below HVB.out hC) hC.size)
        rw [← HXB.out] at hcv
        refine rel_value_w (v := .string XB) rfl (wanted_of (b := false) rfl rfl rfl eg) ?_ hC rfl (fun _ _ h => h)
        clear eg
        generalize a.eval = ρ at e ⊢
        simp [execOp, go_sem, e, hcv]
      · intro a wx hC hE hD
        obtain ⟨v24, eg, hR24⟩ := rel_dep (d := 63) rfl (hD 24 _ rfl (by kernel_rfl))
        have hR24' : v24 = .bool false := hR24
        subst hR24'
        clear hR24
        have e : a.eval (.tmp 2) = .string s := hE 2 (by kernel_rfl)
        refine rel_value_w (v := .string s) rfl (wanted_of (b := false) rfl rfl rfl eg) ?_ hC rfl (fun _ _ h => h)
        clear eg
        generalize a.eval = ρ at e ⊢
        simp [execOp, go_sem, e]
      · intro a wx hC hE hD
        obtain ⟨v24, eg, hR24⟩ := rel_dep (d := 63) rfl (hD 24 _ rfl (by kernel_rfl))
        have hR24' : v24 = .bool false := hR24
        subst hR24'
        clear hR24
        obtain ⟨v31, e, hR31⟩ := rel_dep (d := 70) rfl (hD 31 _ rfl (by kernel_rfl))
        have hR31' : v31 = .string s := hR31
        subst hR31'
        clear hR31
        refine rel_call_w rfl (wanted_of (b := false) rfl rfl rfl eg) (exec_call1 rfl e (hfn 20 (by simp))) ((rputList_any s wx (by omega)).mono ?_)
        rintro e2 w2 ⟨v', rfl, hown, hb2⟩
        exact ⟨v', rfl, hC.trans (hb2.mono hC.size), Sl.of_own hown, all_keep hb2⟩
      · intro a wx hC hE hD
        obtain ⟨v24, eg, hR24⟩ := rel_dep (d := 63) rfl (hD 24 _ rfl (by kernel_rfl))
        have hR24' : v24 = .bool false := hR24
        subst hR24'
        clear hR24
        obtain ⟨v32, e, hR32⟩ := rel_dep (d := 71) rfl (hD 32 _ rfl (by kernel_rfl))
        have hS : Sl wx wx.heap.size v32 (bv (encB s.data.toList)) := hR32
        have hcv := conv_str Tryd.underlying23 Tryd.underlying5 Tryd.underlying9 hS
        rw [← HP3.out] at hcv
        refine rel_value_w (v := .string P3) rfl (wanted_of (b := false) rfl rfl rfl eg) ?_ hC rfl (fun _ _ h => h)
        clear eg
        generalize a.eval = ρ at e ⊢
        simp [execOp, go_sem, e, hcv]
      · intro a wx hC hE hD
        obtain ⟨v24, eg, hR24⟩ := rel_dep (d := 63) rfl (hD 24 _ rfl (by kernel_rfl))
        have hR24' : v24 = .bool false := hR24
        subst hR24'
        clear hR24
        obtain ⟨v30, e1, hR30⟩ := rel_dep (d := 69) rfl (hD 30 _ rfl (by kernel_rfl))
        have hR30' : v30 = .string XB := hR30
        subst hR30'
        clear hR30
        obtain ⟨v33, e2, hR33⟩ := rel_dep (d := 72) rfl (hD 33 _ rfl (by kernel_rfl))
        have hR33' : v33 = .string P3 := hR33
        subst hR33'
        clear hR33
        refine rel_value_w (v := .string X3) rfl (wanted_of (b := false) rfl rfl rfl eg) ?_ hC rfl (fun _ _ h => h)
        clear eg
        generalize a.eval = ρ at e1 e2 ⊢
        simp [execOp, go_sem, e1, e2, hz3, hq3]
      · intro a wx hC hE hD
        obtain ⟨v24, eg, hR24⟩ := rel_dep (d := 63) rfl (hD 24 _ rfl (by kernel_rfl))
        have hR24' : v24 = .bool false := hR24
        subst hR24'
        clear hR24
        obtain ⟨v28, e1, hR28⟩ := rel_dep (d := 67) rfl (hD 28 _ rfl (by kernel_rfl))
        have hR28' : v28 = .string X3 := hR28
        subst hR28'
        clear hR28
        obtain ⟨v34, e2, hR34⟩ := rel_dep (d := 73) rfl (hD 34 _ rfl (by kernel_rfl))
        have hR34' : v34 = .string X3 := hR34
        subst hR34'
        clear hR34
        refine rel_value_w (v := .bool false) rfl (wanted_of (b := false) rfl rfl rfl eg) ?_ hC rfl (fun _ _ h => h)
        clear eg
        generalize a.eval = ρ at e1 e2 ⊢
        simp [execOp, go_sem, e1, e2]
      · intro a wx hC hE hD
        obtain ⟨v24, e1, hR24⟩ := rel_dep (d := 63) rfl (hD 24 _ rfl (by kernel_rfl))
        have hR24' : v24 = .bool false := hR24
        subst hR24'
        clear hR24
        obtain ⟨v35, e2, hR35⟩ := rel_dep (d := 74) rfl (hD 35 _ rfl (by kernel_rfl))
        have hR35' : v35 = .bool false := hR35
        subst hR35'
        clear hR35
        have e3 : a.eval (.const (.bool true)) = .bool true := rfl
        refine rel_value (v := .bool false) rfl rfl ?_ hC rfl (fun _ _ h => h)
        generalize a.eval = ρ at e1 e2 e3 ⊢
        simp [execOp, go_sem, e1, e2, e3]
      · intro a wx hC hE hD
        obtain ⟨v36, e, hR36⟩ := rel_dep (d := 75) rfl (hD 36 _ rfl (by kernel_rfl))
        have hR36' : v36 = .bool false := hR36
        subst hR36'
        clear hR36
        refine rel_value (v := .bool false) rfl rfl ?_ hC rfl (fun _ _ h => h)
        generalize a.eval = ρ at e ⊢
        simp [execOp, go_sem, e]
      · intro a wx hC hE hD
        obtain ⟨v37, eg, hR37⟩ := rel_dep (d := 76) rfl (hD 37 _ rfl (by kernel_rfl))
        have hR37' : v37 = .bool false := hR37
        subst hR37'
        clear hR37
        have e : a.eval (.tmp 4) = .int .i64 n := hE 4 (by kernel_rfl)
        refine rel_value_w (v := .int .i64 n) rfl (wanted_of (b := false) rfl rfl rfl eg) ?_ hC rfl (fun _ _ h => h)
        clear eg
        generalize a.eval = ρ at e ⊢
        simp [execOp, go_sem, e]
      · intro a wx hC hE hD
        obtain ⟨v37, eg, hR37⟩ := rel_dep (d := 76) rfl (hD 37 _ rfl (by kernel_rfl))
        have hR37' : v37 = .bool false := hR37
        subst hR37'
        clear hR37
        obtain ⟨v38, e, hR38⟩ := rel_dep (d := 77) rfl (hD 38 _ rfl (by kernel_rfl))
        have hR38' : v38 = .int .i64 n := hR38
        subst hR38'
        clear hR38
        refine rel_call_w rfl (wanted_of (b := false) rfl rfl rfl eg) (exec_call1 rfl e (hfn 21 (by simp))) ((fixed_any n wx).mono ?_)
        rintro e2 w2 ⟨rfl, rfl⟩
        rw [← HFX.out]
        exact ⟨_, rfl, hC, rfl, fun _ _ h => h⟩
      · intro a wx hC hE hD
        obtain ⟨v37, eg, hR37⟩ := rel_dep (d := 76) rfl (hD 37 _ rfl (by kernel_rfl))
        have hR37' : v37 = .bool false := hR37
        subst hR37'
        clear hR37
        have e : a.eval (.tmp 4) = .int .i64 n := hE 4 (by kernel_rfl)
        refine rel_value_w (v := .int .i64 n) rfl (wanted_of (b := false) rfl rfl rfl eg) ?_ hC rfl (fun _ _ h => h)
        clear eg
        generalize a.eval = ρ at e ⊢
        simp [execOp, go_sem, e]
      · intro a wx hC hE hD
        obtain ⟨v37, eg, hR37⟩ := rel_dep (d := 76) rfl (hD 37 _ rfl (by kernel_rfl))
        have hR37' : v37 = .bool false := hR37
        subst hR37'
        clear hR37
        obtain ⟨v40, e, hR40⟩ := rel_dep (d := 79) rfl (hD 40 _ rfl (by kernel_rfl))
        have hR40' : v40 = .int .i64 n := hR40
        subst hR40'
        clear hR40
        refine rel_call_w rfl (wanted_of (b := false) rfl rfl rfl eg) (exec_call1 rfl e (hfn 22 (by simp))) ((rfixed_any n wx).mono ?_)
        rintro e2 w2 ⟨rfl, rfl⟩
        rw [← HFX.out]
        exact ⟨_, rfl, hC, rfl, fun _ _ h => h⟩
      · intro a wx hC hE hD
        obtain ⟨v37, eg, hR37⟩ := rel_dep (d := 76) rfl (hD 37 _ rfl (by kernel_rfl))
        have hR37' : v37 = .bool false := hR37
        subst hR37'
        clear hR37
        obtain ⟨v39, e1, hR39⟩ := rel_dep (d := 78) rfl (hD 39 _ rfl (by kernel_rfl))
        have hR39' : v39 = .int .i32 fx := hR39
        subst hR39'
        clear hR39
        obtain ⟨v41, e2, hR41⟩ := rel_dep (d := 80) rfl (hD 41 _ rfl (by kernel_rfl))
        have hR41' : v41 = .int .i32 fx := hR41
        subst hR41'
        clear hR41
        refine rel_value_w (v := .bool false) rfl (wanted_of (b := false) rfl rfl rfl eg) ?_ hC rfl (fun _ _ h => h)
        clear eg
        generalize a.eval = ρ at e1 e2 ⊢
        simp [execOp, go_sem, e1, e2]
      · intro a wx hC hE hD
        obtain ⟨v37, e1, hR37⟩ := rel_dep (d := 76) rfl (hD 37 _ rfl (by kernel_rfl))
        have hR37' : v37 = .bool false := hR37
        subst hR37'
        clear hR37
        obtain ⟨v42, e2, hR42⟩ := rel_dep (d := 81) rfl (hD 42 _ rfl (by kernel_rfl))
        have hR42' : v42 = .bool false := hR42
        subst hR42'
        clear hR42
        have e3 : a.eval (.const (.bool true)) = .bool true := rfl
        refine rel_value (v := .bool false) rfl rfl ?_ hC rfl (fun _ _ h => h)
        generalize a.eval = ρ at e1 e2 e3 ⊢
        simp [execOp, go_sem, e1, e2, e3]
      · intro a wx hC hE hD
        obtain ⟨v43, e, hR43⟩ := rel_dep (d := 82) rfl (hD 43 _ rfl (by kernel_rfl))
        have hR43' : v43 = .bool false := hR43
        subst hR43'
        clear hR43
        refine rel_value (v := .bool false) rfl rfl ?_ hC rfl (fun _ _ h => h)
        generalize a.eval = ρ at e ⊢
        simp [execOp, go_sem, e]
      · intro a wx hC hE hD
        obtain ⟨v44, eg, hR44⟩ := rel_dep (d := 83) rfl (hD 44 _ rfl (by kernel_rfl))
        have hR44' : v44 = .bool false := hR44
        subst hR44'
        clear hR44
        have e : a.eval (.tmp 1) = .int .u32 x := hE 1 (by kernel_rfl)
        refine rel_value_w (v := .int .u32 x) rfl (wanted_of (b := false) rfl rfl rfl eg) ?_ hC rfl (fun _ _ h => h)
        clear eg
        generalize a.eval = ρ at e ⊢
        simp [execOp, go_sem, e]
      · intro a wx hC hE hD
        obtain ⟨v44, eg, hR44⟩ := rel_dep (d := 83) rfl (hD 44 _ rfl (by kernel_rfl))
        have hR44' : v44 = .bool false := hR44
        subst hR44'
        clear hR44
        obtain ⟨v45, e, hR45⟩ := rel_dep (d := 84) rfl (hD 45 _ rfl (by kernel_rfl))
        have hR45' : v45 = .int .u32 x := hR45
        subst hR45'
        clear hR45
        refine rel_value_w (v := .int .i32 vz) rfl (wanted_of (b := false) rfl rfl rfl eg) ?_ hC rfl (fun _ _ h => h)
        clear eg
        generalize a.eval = ρ at e ⊢
        simp [execOp, go_sem, e, hvz]
      · intro a wx hC hE hD
        obtain ⟨v44, eg, hR44⟩ := rel_dep (d := 83) rfl (hD 44 _ rfl (by kernel_rfl))
        have hR44' : v44 = .bool false := hR44
        subst hR44'
        clear hR44
        obtain ⟨v46, e, hR46⟩ := rel_dep (d := 85) rfl (hD 46 _ rfl (by kernel_rfl))
        have hR46' : v46 = .int .i32 vz := hR46
        subst hR46'
        clear hR46
        refine rel_call_w rfl (wanted_of (b := false) rfl rfl rfl eg) (exec_call1 rfl e (hfn 23 (by simp))) ((whole_any vz wx z0 z1).mono ?_)
        rintro e2 w2 ⟨rfl, rfl⟩
        exact ⟨_, rfl, hC, rfl, fun _ _ h => h⟩
      · intro a wx hC hE hD
        obtain ⟨v44, eg, hR44⟩ := rel_dep (d := 83) rfl (hD 44 _ rfl (by kernel_rfl))
        have hR44' : v44 = .bool false := hR44
        subst hR44'
        clear hR44
        have e : a.eval (.tmp 1) = .int .u32 x := hE 1 (by kernel_rfl)
        refine rel_value_w (v := .int .u32 x) rfl (wanted_of (b := false) rfl rfl rfl eg) ?_ hC rfl (fun _ _ h => h)
        clear eg
        generalize a.eval = ρ at e ⊢
        simp [execOp, go_sem, e]
      · intro a wx hC hE hD
        obtain ⟨v44, eg, hR44⟩ := rel_dep (d := 83) rfl (hD 44 _ rfl (by kernel_rfl))
        have hR44' : v44 = .bool false := hR44
        subst hR44'
        clear hR44
        obtain ⟨v48, e, hR48⟩ := rel_dep (d := 87) rfl (hD 48 _ rfl (by kernel_rfl))
        have hR48' : v48 = .int .u32 x := hR48
        subst hR48'
        clear hR48
        refine rel_value_w (v := .int .i32 vz) rfl (wanted_of (b := false) rfl rfl rfl eg) ?_ hC rfl (fun _ _ h => h)
        clear eg
        generalize a.eval = ρ at e ⊢
        simp [execOp, go_sem, e, hvz]
      · intro a wx hC hE hD
        obtain ⟨v44, eg, hR44⟩ := rel_dep (d := 83) rfl (hD 44 _ rfl (by kernel_rfl))
        have hR44' : v44 = .bool false := hR44
        subst hR44'
        clear hR44
        obtain ⟨v49, e, hR49⟩ := rel_dep (d := 88) rfl (hD 49 _ rfl (by kernel_rfl))
        have hR49' : v49 = .int .i32 vz := hR49
        subst hR49'
        clear hR49
        refine rel_call_w rfl (wanted_of (b := false) rfl rfl rfl eg) (exec_call1 rfl e (hfn 24 (by simp))) ((rwhole_any vz wx z0 z1).mono ?_)
        rintro e2 w2 ⟨rfl, rfl⟩
        exact ⟨_, rfl, hC, rfl, fun _ _ h => h⟩
      · intro a wx hC hE hD
        obtain ⟨v44, eg, hR44⟩ := rel_dep (d := 83) rfl (hD 44 _ rfl (by kernel_rfl))
        have hR44' : v44 = .bool false := hR44
        subst hR44'
        clear hR44
        obtain ⟨v47, e1, hR47⟩ := rel_dep (d := 86) rfl (hD 47 _ rfl (by kernel_rfl))
        have hR47' : v47 = .int .i64 (vz / 256) := hR47
        subst hR47'
        clear hR47
        obtain ⟨v50, e2, hR50⟩ := rel_dep (d := 89) rfl (hD 50 _ rfl (by kernel_rfl))
        have hR50' : v50 = .int .i64 (vz / 256) := hR50
        subst hR50'
        clear hR50
        refine rel_value_w (v := .bool false) rfl (wanted_of (b := false) rfl rfl rfl eg) ?_ hC rfl (fun _ _ h => h)
        clear eg
        generalize a.eval = ρ at e1 e2 ⊢
        simp [execOp, go_sem, e1, e2]
      · intro a wx hC hE hD
        obtain ⟨v44, e1, hR44⟩ := rel_dep (d := 83) rfl (hD 44 _ rfl (by kernel_rfl))
        have hR44' : v44 = .bool false := hR44
        subst hR44'
        clear hR44
        obtain ⟨v51, e2, hR51⟩ := rel_dep (d := 90) rfl (hD 51 _ rfl (by kernel_rfl))
        have hR51' : v51 = .bool false := hR51
        subst hR51'
        clear hR51
        have e3 : a.eval (.const (.bool true)) = .bool true := rfl
        refine rel_value (v := .bool false) rfl rfl ?_ hC rfl (fun _ _ h => h)
        generalize a.eval = ρ at e1 e2 e3 ⊢
        simp [execOp, go_sem, e1, e2, e3]
    · intro vs w3 hC hV
      obtain ⟨_, _, _, _, _, _, _, _, _, _, _, _, _, _, _, _, _, _, _, _, _, _, _, _, _, _, _, _, _, _, _, _, _, _, _, _, _, _, _, _, _, _, _, _, _, _, _, _, _, _, _, _, h52, _⟩ := hV
      have h52' : vs 52 = .bool false := h52
      simp only [putAll, Act.put, List.setIfInBounds_toArray, List.set_cons_zero, List.set_cons_succ, Nat.zero_add, Nat.reduceAdd]
      rw [h52']
      have HB3 := Lib.hid (HB2.out.trans (hC.mono HB2.out.size))
      have HS3 := Lib.hid (SlN.more (SlN.below HS2.out hC) hC.size)
      have HC3 := Lib.hid (SlN.toSl (SlN.more (SlN.below HVC.out hC) hC.size))
      have HV3 := Lib.hid (SlN.toSl (SlN.more (SlN.below HVB.out hC) hC.size))
      clear hC h52 h52' hfn hq1 hq2 hq3 hz1 hz2 hz3 hvz HX1 HX2 HX3 HP1 HP2 HP3 HXB HFX HS2 HVC HVB HB2
      obtain ⟨gv, hgv⟩ : ∃ gv, gv = getV bs at_ := ⟨_, rfl⟩
      obtain ⟨q0, hq0⟩ : ∃ q, q = getE bs at_ := ⟨_, rfl⟩
      have HGV := Lib.hid hgv
      have hq0' : q0 ≤ 16 := by rw [hq0]; unfold getE; split <;> (try split) <;> omega
      have HQ0 := Lib.hid hq0
      obtain ⟨T1, I1, q1, hq1, HT1, HR1⟩ := text_parts A bs at_
      obtain ⟨T2, I2, q2, hq2, HT2, HR2⟩ := got_parts A bs at_
      have HT1 := Lib.hid HT1
      have HR1 := Lib.hid HR1
      have HT2 := Lib.hid HT2
      have HR2 := Lib.hid HR2
      clear hgv hq0
      go_wp2_with fail
      refine (get_any A allErrs _ bs at_ w3 HC3.out (HE.out.to HB3.out HB3.out.size) H1 H2).mono ?_
      rintro e w4 ⟨rfl, hb4⟩
      rw [← HGV.out, ← HQ0.out]
      have HB4 := Lib.hid (HB3.out.trans (hb4.mono HB3.out.size))
      have HS4 := Lib.hid (SlN.more (SlN.below HS3.out hb4) hb4.size)
      have HC4 := Lib.hid (Sl.more (HC3.out.below hb4) hb4.size)
      have HV4 := Lib.hid (Sl.more (HV3.out.below hb4) hb4.size)
      clear hb4
      go_wp2_with fail
      refine (rget_any _ bs at_ w4 HV4.out).mono ?_
      rintro e w5 ⟨rfl, hb5⟩
      rw [← HGV.out, ← HQ0.out]
      have HB5 := Lib.hid (HB4.out.trans (hb5.mono HB4.out.size))
      have HS5 := Lib.hid (SlN.more (SlN.below HS4.out hb5) hb5.size)
      have HC5 := Lib.hid (Sl.more (HC4.out.below hb5) hb5.size)
      have HV5 := Lib.hid (Sl.more (HV4.out.below hb5) hb5.size)
      clear hb5
      go_wp2_with fail
      refine (getText_any A allErrs _ bs at_ w5 HC5.out (HE.out.to HB5.out HB5.out.size) H1 H2 H3 H4).mono ?_
      rintro e w6 ⟨rfl, hb6⟩
      rw [HT1.out]
      have HB6 := Lib.hid (HB5.out.trans (hb6.mono HB5.out.size))
      have HS6 := Lib.hid (SlN.more (SlN.below HS5.out hb6) hb6.size)
      have HC6 := Lib.hid (Sl.more (HC5.out.below hb6) hb6.size)
      have HV6 := Lib.hid (Sl.more (HV5.out.below hb6) hb6.size)
      clear hb6
      go_wp2_with fail
      refine (rgetText_any _ bs at_ w6 HV6.out).mono ?_
      rintro e w7 ⟨rfl, hb7⟩
      rw [HR1.out]
      have HB7 := Lib.hid (HB6.out.trans (hb7.mono HB6.out.size))
      have HS7 := Lib.hid (SlN.more (SlN.below HS6.out hb7) hb7.size)
      have HC7 := Lib.hid (Sl.more (HC6.out.below hb7) hb7.size)
      have HV7 := Lib.hid (Sl.more (HV6.out.below hb7) hb7.size)
      clear hb7
      go_wp2_with fail
      refine (getList_any A allErrs _ bs at_ w7 HC7.out (HE.out.to HB7.out HB7.out.size) H1 H2 H3 H4).mono ?_
      rintro e w8 ⟨rfl, hb8⟩
      rw [HT2.out]
      have HB8 := Lib.hid (HB7.out.trans (hb8.mono HB7.out.size))
      have HS8 := Lib.hid (SlN.more (SlN.below HS7.out hb8) hb8.size)
      have HV8 := Lib.hid (Sl.more (HV7.out.below hb8) hb8.size)
      clear hb8
      go_wp2_with fail
      refine (rgetList_any _ bs at_ w8 HV8.out).mono ?_
      rintro e w9 ⟨rfl, hb9⟩
      rw [HR2.out]
      have HB9 := Lib.hid (HB8.out.trans (hb9.mono HB8.out.size))
      have HS9 := Lib.hid (SlN.more (SlN.below HS8.out hb9) hb9.size)
      clear hb9 HS3 HS4 HS5 HS6 HS7 HS8 HC3 HC4 HC5 HC6 HC7 HV3 HV4 HV5 HV6 HV7 HV8 HB3 HB4 HB5 HB6 HB7 HB8 HT1 HT2 HR1 HR2
      go_wp2_with fail
      refine (kind_any A q0 hq0' w9 (HE.out.to HB9.out HB9.out.size)).mono ?_
      rintro e w10 ⟨rfl, hb10⟩
      have HB10 := Lib.hid (HB9.out.trans (hb10.mono HB9.out.size))
      have HS10 := Lib.hid (SlN.more (SlN.below HS9.out hb10) hb10.size)
      clear hb10
      go_wp2_with fail
      refine (kind_any A q1 hq1 w10 (HE.out.to HB10.out HB10.out.size)).mono ?_
      rintro e w11 ⟨rfl, hb11⟩
      have HB11 := Lib.hid (HB10.out.trans (hb11.mono HB10.out.size))
      have HS11 := Lib.hid (SlN.more (SlN.below HS10.out hb11) hb11.size)
      clear hb11
      go_wp2_with fail
      refine (kind_any A q2 hq2 w11 (HE.out.to HB11.out HB11.out.size)).mono ?_
      rintro e w12 ⟨rfl, hb12⟩
      have HB12 := Lib.hid (HB11.out.trans (hb12.mono HB11.out.size))
      have h99 := sl_last (SlN.below HS11.out hb12) HNB.out
      clear hb12
      go_wp2_with fail
      refine (wawake_any _).mono ?_
      rintro e w13 ⟨rfl, hb13⟩
      go_wp2_with fail
      go_ret
      exact ⟨rfl, HB12.out.trans (hb13.mono HB12.out.size)⟩
end Go.Proofs.YtnaagmjjnapklaaDoor
