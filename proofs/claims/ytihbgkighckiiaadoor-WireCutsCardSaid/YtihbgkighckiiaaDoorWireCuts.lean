/- The walk over tableaulaw04.WireCuts. Printed by gen_wcuts.py. -/
import Derived.Test.YtihbgkighckiiaaDoorPutGetL
import Derived.Test.YtihbgkighckiiaaDoorGet
import Derived.Test.YtihbgkighckiiaaDoorFew
import Derived.Test.YtihbgkighckiiaaDoorRelV
import Derived.Test.YtihbgkighckiiaaDoorWOpen
import Derived.Test.YtihbgkighckiiaaDoorWAwake
import Derived.Test.YtihbgkighckiiaaDoorPl
import Derived.Deep.CutBlock
import Derived.Deep.CutRange
namespace Go.Proofs.YtihbgkighckiiaaDoor
open Go.RowKit
set_option maxRecDepth 100000
set_option linter.unusedVariables false

theorem SlN.cut3_ {w : World} {B m c p e : Nat} {b off : Nat} {xs : List Value} (h : SlN w B 1 (.slice (some ⟨b, off, none⟩) m c) m xs) (hp : p ≤ e) (he : e ≤ m) : SlN w B 1 (.slice (some ⟨b, off + p, none⟩) (e - p) (c - p)) (e - p) ((xs.take e).drop p) := by
  have h1 := (SlN.drop_ h (k := p) (by omega)).take_ (k := e - p) (by omega)
  rw [List.drop_take]
  exact h1
def CuA (w0 : World) (g : Nat) (o p : Int) (V7 : Value) (k : Int) (VS : Value) (X : List UInt8) (S : ByteArray) (sig : ByteArray) (E : Value) (i : Nat) (v : Value) (w : World) : Prop :=
  match i with
  | 0 => v = .pointer (some ⟨g, 0, none⟩)
  | 1 => v = .int .i64 o
  | 2 => v = .pointer (some ⟨g, 1, none⟩)
  | 3 => v = .int .i64 p
  | 4 => v = V7
  | 5 => v = .int .i64 k
  | 6 => v = VS
  | 7 => v = .string S
  | 8 => v = .agg #[.int .i64 o, .int .i64 p, .string S]
  | 9 => v = .string sig
  | 10 => ∃ A c, v = .tuple #[.agg #[.int .i64 0, .int .i64 0, .slice A 0 c], E]
  | 11 => ∃ A c, v = .tuple #[.agg #[.int .i64 0, .int .i64 0, .slice A 0 c], E]
  | 12 => ∃ A c, v = .agg #[.int .i64 0, .int .i64 0, .slice A 0 c]
  | 13 => v = E
  | 14 => ∃ b, v = .pointer (some ⟨b, 0, none⟩) ∧ w0.heap.size ≤ b ∧ ∃ x y z, Blk w b 29 #[x, y, z]
  | 15 => w0.heap.size ≤ w.heap.size ∨ True
  | _ => v = E
theorem CuA_keep {w0 w w' : World} {g : Nat} {o p k : Int} {V7 VS E : Value} {X : List UInt8} {S sig : ByteArray} (hb : Below w.heap.size w w') (j : Nat) (u : Value) (h : CuA w0 g o p V7 k VS X S sig E j u w) : CuA w0 g o p V7 k VS X S sig E j u w' := by
  unfold CuA at h ⊢
  split at h
  case h_15 => obtain ⟨b, h1, h2, x, y, z, h3⟩ := h; exact ⟨b, h1, h2, x, y, z, h3.below hb h3.lt⟩
  case h_16 => exact .inr trivial
  all_goals exact h
theorem CuA_store {w0 w : World} {g b : Nat} {o p k : Int} {V7 VS E x y z x0 y0 z0 : Value} {X : List UInt8} {S sig : ByteArray} (hk : Blk w b 29 #[x0, y0, z0]) (j : Nat) (u : Value) (h : CuA w0 g o p V7 k VS X S sig E j u w) : CuA w0 g o p V7 k VS X S sig E j u (((w.setCell ⟨b, 0, none⟩ x).setCell ⟨b, 1, none⟩ y).setCell ⟨b, 2, none⟩ z) := by
  have hst := only_set (only_set (only_set (only_refl w (some b)) 0 x) 1 y) 2 z
  unfold CuA at h ⊢
  split at h
  case h_15 =>
    obtain ⟨b', h1, h2, x', y', z', h3⟩ := h
    by_cases hbb : b' = b
    · subst hbb; exact ⟨b', h1, h2, _, _, _, ((h3.set_ 0 _).set_ 1 _).set_ 2 _⟩
    · exact ⟨b', h1, h2, x', y', z', h3.grown hst (by simpa using hbb)⟩
  case h_16 => exact .inr trivial
  all_goals exact h
def CuB (w0 : World) (g : Nat) (o p : Int) (V7 : Value) (k : Int) (VS : Value) (X : List UInt8) (S : ByteArray) (sig : ByteArray) (E : Value) (i : Nat) (v : Value) (w : World) : Prop :=
  match i with
  | 0 => v = .pointer (some ⟨g, 0, none⟩)
  | 1 => v = .int .i64 o
  | 2 => v = .pointer (some ⟨g, 1, none⟩)
  | 3 => v = .int .i64 p
  | 4 => v = V7
  | 5 => v = VS
  | 6 => v = .string (strB X) ∧ k = k
  | 7 => v = .string S
  | 8 => v = .agg #[.int .i64 o, .int .i64 p, .string S]
  | 9 => v = .string sig
  | 10 => ∃ A c, v = .tuple #[.agg #[.int .i64 0, .int .i64 0, .slice A 0 c], E]
  | 11 => ∃ A c, v = .tuple #[.agg #[.int .i64 0, .int .i64 0, .slice A 0 c], E]
  | 12 => ∃ A c, v = .agg #[.int .i64 0, .int .i64 0, .slice A 0 c]
  | 13 => v = E
  | 14 => ∃ b, v = .pointer (some ⟨b, 0, none⟩) ∧ w0.heap.size ≤ b ∧ ∃ x y z, Blk w b 29 #[x, y, z]
  | 15 => w0.heap.size ≤ w.heap.size ∨ True
  | _ => v = E
theorem CuB_keep {w0 w w' : World} {g : Nat} {o p k : Int} {V7 VS E : Value} {X : List UInt8} {S sig : ByteArray} (hb : Below w.heap.size w w') (j : Nat) (u : Value) (h : CuB w0 g o p V7 k VS X S sig E j u w) : CuB w0 g o p V7 k VS X S sig E j u w' := by
  unfold CuB at h ⊢
  split at h
  case h_15 => obtain ⟨b, h1, h2, x, y, z, h3⟩ := h; exact ⟨b, h1, h2, x, y, z, h3.below hb h3.lt⟩
  case h_16 => exact .inr trivial
  all_goals exact h
theorem CuB_store {w0 w : World} {g b : Nat} {o p k : Int} {V7 VS E x y z x0 y0 z0 : Value} {X : List UInt8} {S sig : ByteArray} (hk : Blk w b 29 #[x0, y0, z0]) (j : Nat) (u : Value) (h : CuB w0 g o p V7 k VS X S sig E j u w) : CuB w0 g o p V7 k VS X S sig E j u (((w.setCell ⟨b, 0, none⟩ x).setCell ⟨b, 1, none⟩ y).setCell ⟨b, 2, none⟩ z) := by
  have hst := only_set (only_set (only_set (only_refl w (some b)) 0 x) 1 y) 2 z
  unfold CuB at h ⊢
  split at h
  case h_15 =>
    obtain ⟨b', h1, h2, x', y', z', h3⟩ := h
    by_cases hbb : b' = b
    · subst hbb; exact ⟨b', h1, h2, _, _, _, ((h3.set_ 0 _).set_ 1 _).set_ 2 _⟩
    · exact ⟨b', h1, h2, x', y', z', h3.grown hst (by simpa using hbb)⟩
  case h_16 => exact .inr trivial
  all_goals exact h
set_option linter.unusedVariables false in
set_option maxHeartbeats 3200000 in
theorem wcuts_walk (A : Nat → Addr) (mv : Value) (x : Int × Int × Value × List ArgD) (sig : ByteArray) (at_ : Int) (w : World) (hE : Errs w w.heap.size allErrs A) (hm : mv = .agg #[.int .i64 x.1, .int .i64 x.2.1, x.2.2.1] ∧ ArgsIs w x.2.2.1 x.2.2.2) (hsz : sig.size ≤ 140737488351232) (hat : (Lit.int .i64 at_).wf = true) :
    Calls Tryd.prog 6 #[mv, .string sig, .int .i64 at_] w fun e w' => e = .returned (.bool true) ∧ Below w.heap.size w w' := by
  obtain ⟨o, p, va, l⟩ := x
  obtain ⟨rfl, hargs⟩ := hm
  simp only at hargs ⊢
  have HE := Lib.hid hE
  have H1 : (1 : Nat) ∈ allErrs := mem_all 1 (by omega) (by omega)
  have H2 : (2 : Nat) ∈ allErrs := mem_all 2 (by omega) (by omega)
  have H3 : (3 : Nat) ∈ allErrs := mem_all 3 (by omega) (by omega)
  have H4 : (4 : Nat) ∈ allErrs := mem_all 4 (by omega) (by omega)
  have HAR := Lib.hid hargs
  obtain ⟨_, Va, vc, rfl, _⟩ := hargs
  obtain ⟨nl, hnl⟩ : ∃ nl, nl = l.length := ⟨_, rfl⟩
  rw [← hnl] at HAR ⊢
  have HNL := Lib.hid hnl
  have hb1 : Below w.heap.size w (w.alloc (.cells #[.int .i64 o, .int .i64 p, .slice Va nl vc] 29)) := (Below.refl _ _).alloc (Nat.le_refl _) _
  have hk1 : Blk (w.alloc (.cells #[.int .i64 o, .int .i64 p, .slice Va nl vc] 29)) w.heap.size 29 #[.int .i64 o, .int .i64 p, .slice Va nl vc] := Blk.new _ _ _
  have HB1 := Lib.hid hb1
  have HK1 := Lib.hid hk1
  clear hE hnl hb1 hk1 hsz hat
  go_enter Tryd.func6, Tryd.ntmps6
  go_upto_region 1 with (fail)
  obtain ⟨g, hg⟩ : ∃ g, g = w.heap.size := ⟨_, rfl⟩
  rw [← hg] at HK1 ⊢
  clear hg
  generalize w.alloc (.cells #[.int .i64 o, .int .i64 p, .slice Va nl vc] 29) = w1 at HB1 HK1 ⊢
  have c0 : w1.cell? ⟨g, 0, none⟩ = some (.int .i64 o) := HK1.out.cell 0
  have c1 : w1.cell? ⟨g, 1, none⟩ = some (.int .i64 p) := HK1.out.cell 1
  have c2 : w1.cell? ⟨g, 2, none⟩ = some (.slice Va nl vc) := HK1.out.cell 2
  have HA1 := Lib.hid (HAR.out.below HB1.out)
  go_wp2_with fail
  refine (few_any o p _ l sig w1 HA1.out).mono ?_
  rintro e w2 ⟨b, rfl, hfew, hb2⟩
  have HB2 := Lib.hid (HB1.out.trans (hb2.mono HB1.out.size))
  have HK2 := Lib.hid (HK1.out.below hb2 HK1.out.lt)
  have HA2 := Lib.hid (HA1.out.below hb2)
  have HFEW := Lib.hid hfew
  clear hb2 hfew c0 c1 c2
  cases b with
  | false =>
    go_wp2_with fail
    refine (w4awake_any A allErrs H1 H4 w2 (HE.out.to HB2.out HB2.out.size)).mono ?_
    rintro e w3 ⟨rfl, hb3⟩
    go_wp2
    go_ret
    exact ⟨rfl, HB2.out.trans (hb3.mono HB2.out.size)⟩
  | true =>
    obtain ⟨hl30, hs30, hx60⟩ := HFEW.out rfl
    have HFIT : Hid (Fit l) := fun x hx => by have := hx60 x hx; omega
    have c0 : w2.cell? ⟨g, 0, none⟩ = some (.int .i64 o) := HK2.out.cell 0
    have c1 : w2.cell? ⟨g, 1, none⟩ = some (.int .i64 p) := HK2.out.cell 1
    have c2 : w2.cell? ⟨g, 2, none⟩ = some (.slice Va nl vc) := HK2.out.cell 2
    have HSIG : Hid (sig.size ≤ 60000) := by show _ ≤ _; omega
    have HS30 := Lib.hid hs30
    clear hx60
    go_wp2_with fail
    refine (msg_any o p _ l w2 HA2.out (by omega)).mono ?_
    rintro e w3 ⟨v', rfl, ha3, hb3⟩
    have HB3 := Lib.hid (HB2.out.trans (hb3.mono HB2.out.size))
    have HK3 := Lib.hid (HK2.out.below hb3 HK2.out.lt)
    have HA3 := Lib.hid ha3
    clear ha3 hb3 c0 c1 c2
    go_wp2_with fail
    refine (wput_any A allErrs H1 H4 o p v' l sig w3 (HE.out.to HB3.out HB3.out.size) HA3.out HFIT.out (by omega) (by omega)).mono ?_
    rintro e w4 ⟨v7, rfl, hs4, hb4⟩
    have HB4 := Lib.hid (HB3.out.trans (hb4.mono HB3.out.size))
    have HK4 := Lib.hid (HK3.out.below hb4 HK3.out.lt)
    have HS4 := Lib.hid hs4
    obtain ⟨_, A7, c7, rfl, hc7, hm7, _, hx7⟩ := hs4
    rw [bv_length] at hc7 hx7 ⊢
    obtain ⟨q, hq⟩ : ∃ q, q = putE o p l sig := ⟨_, rfl⟩
    rw [← hq]
    have HQ := Lib.hid hq
    unfold maxLen at hm7
    clear hb4 hq
    by_cases hq0 : q = 0
    · subst hq0
      have hpb := put_back HQ.out.symm
      have hR : putR o p l sig = putB o p l := by unfold putR; rw [if_pos HQ.out.symm]
      rw [hR] at HS4 hc7 hx7 ⊢
      obtain ⟨N, hN⟩ : ∃ N, N = (putB o p l).length := ⟨_, rfl⟩
      have hNb : N = (bodyB l).length + 8 := by rw [hN]; exact hpb.2.2.1
      rw [← hN] at hc7 hx7 ⊢
      have hNbig : N ≤ 4096 := by rw [hNb]; exact put_small HQ.out.symm
      have HN := Lib.hid hN
      have HNB := Lib.hid hNb
      have HPB := Lib.hid hpb
      rw [errV_zero]
      clear hpb hR hN hNb
      by_cases h9 : N < 9
      · have d9 : decide ((N : Int) < 9) = true := by simp; omega
        go_wp2_with fail
        refine (w4awake_any A allErrs H1 H4 w4 (HE.out.to HB4.out HB4.out.size)).mono ?_
        rintro e w5 ⟨rfl, hb5⟩
        go_wp2
        go_ret
        exact ⟨rfl, HB4.out.trans (hb5.mono HB4.out.size)⟩
      have d9 : decide ((N : Int) < 9) = false := by simp; omega
      obtain ⟨b7, o7, hA7, hb7, hx7⟩ := hx7 (by omega)
      subst hA7
      have h4b := bodyB_four l
      have hN4 : N % 4 = 0 := by have := HNB.out; omega
      have hq4 : (1 : Int) ≤ ((N : Int) - 8) / 4 := by omega
      have HX7 := Lib.hid hx7
      clear h9 hx7 h4b
      go_wp2_with fail
      refine (place_any at_ (((N : Int) - 8) / 4) w4 (by omega) (by omega)).mono ?_
      rintro e w5 ⟨rfl, rfl⟩
      obtain ⟨r, hr⟩ : ∃ r, r = at_ % (((N : Int) - 8) / 4) := ⟨_, rfl⟩
      have hr0 := Int.emod_nonneg at_ (show ((N : Int) - 8) / 4 ≠ 0 by omega)
      have hr1 := Int.emod_lt_of_pos at_ (show 0 < ((N : Int) - 8) / 4 by omega)
      rw [← hr] at hr0 hr1 ⊢
      obtain ⟨kN, hkN⟩ : ∃ kN : Nat, (kN : Int) = 8 + 4 * r := ⟨(8 + 4 * r).toNat, by omega⟩
      have HR := Lib.hid hr
      clear hr
      have hkN8 : 8 ≤ kN := by omega
      have hkNN : kN < N := by omega
      have HKN := Lib.hid hkN
      clear hkN hq4 hN4
      go_upto_region 7 with (fail)
      rw [← HKN.out]
      clear hr0 hr1
      obtain ⟨kI, hkI⟩ : ∃ kI : Int, kI = kN := ⟨_, rfl⟩
      rw [← hkI]
      have HKI := Lib.hid hkI
      clear hkI
      have hfn : ∀ args w, (callFunc 23 args).run Tryd.prog w = .ok (.enter 23 args) w := fun args w => by kernel_rfl
      obtain ⟨XA, hXA⟩ : ∃ XA, XA = (bodyB l).take (kN - 8) := ⟨_, rfl⟩
      obtain ⟨XB, hXB⟩ : ∃ XB, XB = bodyB l := ⟨_, rfl⟩
      obtain ⟨SA, hSA⟩ : ∃ SA, SA = strB XA := ⟨_, rfl⟩
      obtain ⟨SB, hSB⟩ : ∃ SB, SB = strB XB ++ ⟨#[0, 0, 0, 0]⟩ := ⟨_, rfl⟩
      have hsB : SlN w4 w4.heap.size 1 (.slice (some ⟨b7, o7, none⟩) N c7) N (bv (putB o p l)) := by have := HS4.out; unfold Sl at this; rw [bv_length, ← HN.out] at this; exact this
      have hXAs := SlN.cut3_ hsB hkN8 (by omega)
      have hXBs := SlN.cut3_ hsB (show 8 ≤ N by omega) (Nat.le_refl N)
      rw [← bv_take, ← bv_drop] at hXAs hXBs
      have eA : ((putB o p l).take kN).drop 8 = XA := by rw [hXA, List.drop_take, HPB.out.2.1]
      have eB : ((putB o p l).take N).drop 8 = XB := by rw [hXB, List.take_of_length_le (by rw [← HN.out]; exact Nat.le_refl _), HPB.out.2.1]
      rw [eA] at hXAs
      rw [eB] at hXBs
      have HXA := Lib.hid hXAs
      have HMSA : Hid (mgetE o p XA sig = 2) := by show _ = _; rw [hXA]; exact put_cut HQ.out.symm _ (by have := HNB.out; omega)
      have HMSB : Hid (mgetE o p (XB ++ [0, 0, 0, 0]) sig = 3) := by show _ = _; rw [hXB]; exact put_more HQ.out.symm
      have HSA := Lib.hid hSA
      have HSB := Lib.hid hSB
      have HTSA : Hid (SA.data.toList = XA) := by show _ = _; rw [hSA, strB_toList]
      have HTSB : Hid (SB.data.toList = XB ++ [0, 0, 0, 0]) := by show _ = _; rw [hSB]; simp [strB]
      have HZSA : Hid (SA.size ≤ 1000000) := by show _ ≤ _; rw [hSA, strB_size, hXA, List.length_take]; omega
      have HZSB : Hid (SB.size ≤ 1000000) := by show _ ≤ _; rw [hSB, ByteArray.size_append, strB_size, hXB]; have := HNB.out; show _ + 4 ≤ _; omega
      have hXBz : (strB XB).size ≤ 9223372036854775803 := by rw [strB_size, hXB]; have := HNB.out; omega
      have HXB0 := Lib.hid hXBs
      have HBX := Lib.hid HB4.out
      have HKX := Lib.hid HK4.out
      have HEX := Lib.hid (HE.out.to HB4.out HB4.out.size)
      obtain ⟨wX, hwX⟩ : ∃ wX, wX = w4 := ⟨_, rfl⟩
      rw [← hwX] at HXA HXB0 HBX HKX HEX ⊢
      have hk8 : (8 : Int) ≤ kI := by rw [HKI.out]; omega
      have hkc : kI ≤ c7 := by rw [HKI.out]; omega
      have hk0 : (0 : Int) ≤ kI := by omega
      have hkN : kI.toNat = kN := by rw [HKI.out]; exact Int.toNat_natCast _
      have hc8 : ¬ c7 = 8 := by omega
      have hN8 : (8 : Int) ≤ N := by omega
      clear hXA hXB hSA hSB hsB hXAs hXBs eA eB hwX HS4 HX7
      go_cut [10, 11] from 43 to 55 (fun _ s11 wc => s11 = .iface 121 (.pointer (some (A 2))) ∧ Below wX.heap.size wX wc)
      case first =>
        refine wp_region_rel (fun w' => Below wX.heap.size wX w') (CuA wX g o p (.slice (some ⟨b7, o7, none⟩) N c7) kI (.slice (some ⟨b7, o7 + 8, none⟩) (kN - 8) (c7 - 8)) XA SA sig (.iface 121 (.pointer (some (A 2))))) (by kernel_rfl) (by kernel_rfl) (by kernel_rfl) (below_drewN (Below.refl _ _) 1) ?_ ?_
        · refine allSteps_cons ?_ (allSteps_cons ?_ (allSteps_cons ?_ (allSteps_cons ?_ (allSteps_cons ?_ (allSteps_cons ?_ (allSteps_cons ?_ (allSteps_cons ?_ (allSteps_cons ?_ (allSteps_cons ?_ (allSteps_cons ?_ (allSteps_cons ?_ (allSteps_cons ?_ (allSteps_cons ?_ (allSteps_cons ?_ (allSteps_cons ?_ (allSteps_cons ?_ (allSteps_nil)))))))))))))))))
          · intro a wx hC hE hD
            have e : a.eval (.tmp 3) = .pointer (some ⟨g, 0, none⟩) := hE 3 (by kernel_rfl)
            refine rel_value (v := .pointer (some ⟨g, 0, none⟩)) rfl rfl ?_ hC rfl (fun _ _ h => h)
            generalize a.eval = ρ at e ⊢
            simp [execOp, go_sem, e]
          · intro a wx hC hE hD
            obtain ⟨v0, e, hR0⟩ := rel_dep (d := 43) rfl (hD 0 _ rfl (by kernel_rfl))
            have hR0' : v0 = .pointer (some ⟨g, 0, none⟩) := hR0
            subst hR0'
            clear hR0
            have hc' : wx.cell? ⟨g, 0, none⟩ = some (.int .i64 o) := (HKX.out.below hC HKX.out.lt).cell 0
            refine rel_value (v := .int .i64 o) rfl rfl ?_ hC rfl (fun _ _ h => h)
            generalize a.eval = ρ at e ⊢
            simp [execOp, go_sem, e, hc']
          · intro a wx hC hE hD
            have e : a.eval (.tmp 3) = .pointer (some ⟨g, 0, none⟩) := hE 3 (by kernel_rfl)
            refine rel_value (v := .pointer (some ⟨g, 1, none⟩)) rfl rfl ?_ hC rfl (fun _ _ h => h)
            generalize a.eval = ρ at e ⊢
            simp [execOp, go_sem, e]
          · intro a wx hC hE hD
            obtain ⟨v2, e, hR2⟩ := rel_dep (d := 45) rfl (hD 2 _ rfl (by kernel_rfl))
            have hR2' : v2 = .pointer (some ⟨g, 1, none⟩) := hR2
            subst hR2'
            clear hR2
            have hc' : wx.cell? ⟨g, 1, none⟩ = some (.int .i64 p) := (HKX.out.below hC HKX.out.lt).cell 1
            refine rel_value (v := .int .i64 p) rfl rfl ?_ hC rfl (fun _ _ h => h)
            generalize a.eval = ρ at e ⊢
            simp [execOp, go_sem, e, hc']
          · intro a wx hC hE hD
            have e : a.eval (.tmp 7) = .slice (some ⟨b7, o7, none⟩) N c7 := hE 7 (by kernel_rfl)
            refine rel_value (v := .slice (some ⟨b7, o7, none⟩) N c7) rfl rfl ?_ hC rfl (fun _ _ h => h)
            generalize a.eval = ρ at e ⊢
            simp [execOp, go_sem, e]
          · intro a wx hC hE hD
            have e : a.eval (.tmp 9) = .int .i64 kI := hE 9 (by kernel_rfl)
            refine rel_value (v := .int .i64 kI) rfl rfl ?_ hC rfl (fun _ _ h => h)
            generalize a.eval = ρ at e ⊢
            simp [execOp, go_sem, e]
          · intro a wx hC hE hD
            obtain ⟨v4, e, hR4⟩ := rel_dep (d := 47) rfl (hD 4 _ rfl (by kernel_rfl))
            have hR4' : v4 = .slice (some ⟨b7, o7, none⟩) N c7 := hR4
            subst hR4'
            clear hR4
            obtain ⟨v5, e2, hR5⟩ := rel_dep (d := 48) rfl (hD 5 _ rfl (by kernel_rfl))
            have hR5' : v5 = .int .i64 kI := hR5
            subst hR5'
            clear hR5
            refine rel_value (v := .slice (some ⟨b7, o7 + 8, none⟩) (kN - 8) (c7 - 8)) rfl rfl ?_ hC rfl (fun _ _ h => h)
            have e3 : a.eval (.const (.int .i64 8)) = .int .i64 8 := rfl
            generalize a.eval = ρ at e e2 e3 ⊢
            simp [execOp, go_sem, e, e2, e3, hk8, hkc, hkN, hc8]
          · intro a wx hC hE hD
            obtain ⟨v6, e, hR6⟩ := rel_dep (d := 49) rfl (hD 6 _ rfl (by kernel_rfl))
            have hR6' : v6 = .slice (some ⟨b7, o7 + 8, none⟩) (kN - 8) (c7 - 8) := hR6
            subst hR6'
            clear hR6
            have hsl : SlN wx wx.heap.size 1 (.slice (some ⟨b7, o7 + 8, none⟩) (kN - 8) (c7 - 8)) (kN - 8) (bv XA) := ((HXA.out).below hC).more hC.size
            have hcv := conv_str Tryd.underlying30 Tryd.underlying5 Tryd.underlying9 hsl
            rw [← HSA.out] at hcv
            refine rel_value (v := .string SA) rfl rfl ?_ hC rfl (fun _ _ h => h)
            generalize a.eval = ρ at e ⊢
            simp [execOp, go_sem, e, hcv]
          · intro a wx hC hE hD
            obtain ⟨v1, e1, hR1⟩ := rel_dep (d := 44) rfl (hD 1 _ rfl (by kernel_rfl))
            have hR1' : v1 = .int .i64 o := hR1
            subst hR1'
            clear hR1
            obtain ⟨v3, e3, hR3⟩ := rel_dep (d := 46) rfl (hD 3 _ rfl (by kernel_rfl))
            have hR3' : v3 = .int .i64 p := hR3
            subst hR3'
            clear hR3
            obtain ⟨v7, e7, hR7⟩ := rel_dep (d := 50) rfl (hD 7 _ rfl (by kernel_rfl))
            have hR7' : v7 = .string SA := hR7
            subst hR7'
            clear hR7
            refine rel_value (v := .agg #[.int .i64 o, .int .i64 p, .string SA]) rfl rfl ?_ hC rfl (fun _ _ h => h)
            generalize a.eval = ρ at e1 e3 e7 ⊢
            simp [execOp, go_sem, e1, e3, e7]
          · intro a wx hC hE hD
            have e : a.eval (.tmp 1) = .string sig := hE 1 (by kernel_rfl)
            refine rel_value (v := .string sig) rfl rfl ?_ hC rfl (fun _ _ h => h)
            generalize a.eval = ρ at e ⊢
            simp [execOp, go_sem, e]
          · intro a wx hC hE hD
            obtain ⟨v8, e8, hR8⟩ := rel_dep (d := 51) rfl (hD 8 _ rfl (by kernel_rfl))
            have hR8' : v8 = .agg #[.int .i64 o, .int .i64 p, .string SA] := hR8
            subst hR8'
            clear hR8
            obtain ⟨v9, e9, hR9⟩ := rel_dep (d := 52) rfl (hD 9 _ rfl (by kernel_rfl))
            have hR9' : v9 = .string sig := hR9
            subst hR9'
            clear hR9
            refine rel_call rfl rfl (exec_call2 rfl e8 e9 hfn) ((wget_any A allErrs H1 H2 H3 H4 o p SA sig _ HTSA.out wx (HEX.out.to hC hC.size) HZSA.out HSIG.out).mono ?_)
            rintro e2 w2 ⟨vv, rfl, hown, hb2⟩
            have hb3 := hC.trans (hb2.mono hC.size)
            rw [HMSA.out, errV_pos A (by omega), if_neg (by omega), if_neg (by omega)]
            have hL : mgetL o p XA sig = [] := by unfold mgetL; rw [if_neg (by rw [HMSA.out]; omega)]
            rw [hL] at hown
            obtain ⟨A9, c9, rfl⟩ := own_slice' hown
            exact ⟨_, rfl, hb3, ⟨A9, c9, rfl⟩, CuA_keep hb2⟩
          · intro a wx hC hE hD
            obtain ⟨v10, e, hR10⟩ := rel_dep (d := 53) rfl (hD 10 _ rfl (by kernel_rfl))
            have hQ10 : ∃ A9 c9, v10 = .tuple #[.agg #[.int .i64 0, .int .i64 0, .slice A9 0 c9], (.iface 121 (.pointer (some (A 2))))] := hR10
            clear hR10
            refine rel_value (v := v10) rfl rfl ?_ hC hQ10 (fun _ _ h => h)
            generalize a.eval = ρ at e ⊢
            simp [execOp, go_sem, e]
          · intro a wx hC hE hD
            obtain ⟨v11, e, hR11⟩ := rel_dep (d := 42) rfl (hD 11 _ rfl (by kernel_rfl))
            have hQ11 : ∃ A9 c9, v11 = .tuple #[.agg #[.int .i64 0, .int .i64 0, .slice A9 0 c9], (.iface 121 (.pointer (some (A 2))))] := hR11
            clear hR11
            obtain ⟨A9, c9, hv⟩ := hQ11
            rw [hv] at e
            refine rel_value (v := .agg #[.int .i64 0, .int .i64 0, .slice A9 0 c9]) rfl rfl ?_ hC ⟨A9, c9, rfl⟩ (fun _ _ h => h)
            clear hv
            generalize a.eval = ρ at e ⊢
            simp [execOp, go_sem, e]
          · intro a wx hC hE hD
            obtain ⟨v11, e, hR11⟩ := rel_dep (d := 42) rfl (hD 11 _ rfl (by kernel_rfl))
            have hQ11 : ∃ A9 c9, v11 = .tuple #[.agg #[.int .i64 0, .int .i64 0, .slice A9 0 c9], (.iface 121 (.pointer (some (A 2))))] := hR11
            clear hR11
            obtain ⟨A9, c9, hv⟩ := hQ11
            rw [hv] at e
            refine rel_value (v := (.iface 121 (.pointer (some (A 2))))) rfl rfl ?_ hC rfl (fun _ _ h => h)
            clear hv
            generalize a.eval = ρ at e ⊢
            simp [execOp, go_sem, e]
          · intro a wx hC hE hD
            have hbb : Below wx.heap.size wx (wx.alloc (.cells #[.int .i64 0, .int .i64 0, .slice none 0 0] 29)) := (Below.refl _ _).alloc (Nat.le_refl _) _
            refine rel_value (w' := wx.alloc (.cells #[.int .i64 0, .int .i64 0, .slice none 0 0] 29)) (v := .pointer (some ⟨wx.heap.size, 0, none⟩)) rfl rfl ?_ (hC.trans (hbb.mono hC.size)) ⟨_, rfl, hC.size, _, _, _, Blk.new _ _ _⟩ (CuA_keep hbb)
            generalize a.eval = ρ
            simp [execOp, go_sem]
          · intro a wx hC hE hD
            obtain ⟨v14, e, hR14⟩ := rel_dep (d := 10) rfl (hD 14 _ rfl (by kernel_rfl))
            have hQ14 : ∃ b, v14 = .pointer (some ⟨b, 0, none⟩) ∧ wX.heap.size ≤ b ∧ ∃ x y z, Blk wx b 29 #[x, y, z] := hR14
            clear hR14
            obtain ⟨v12, e2, hR12⟩ := rel_dep (d := 54) rfl (hD 12 _ rfl (by kernel_rfl))
            have hQ12 : ∃ A c, v12 = .agg #[.int .i64 0, .int .i64 0, .slice A 0 c] := hR12
            clear hR12
            obtain ⟨bb, hv, hbw, x0, y0, z0, hk⟩ := hQ14
            rw [hv] at e
            obtain ⟨A9, c9, hv2⟩ := hQ12
            rw [hv2] at e2
            clear hv hv2
            have k0 : wx.cell? ⟨bb, 0, none⟩ = some x0 := hk.cell 0
            have k1 : wx.cell? ⟨bb, 1, none⟩ = some y0 := hk.cell 1
            have k2 : wx.cell? ⟨bb, 2, none⟩ = some z0 := hk.cell 2
            have f0 : wx.frozen? ⟨bb, 0, none⟩ = false := hk.frozen 0
            have f1 : wx.frozen? ⟨bb, 1, none⟩ = false := hk.frozen 1
            have f2 : wx.frozen? ⟨bb, 2, none⟩ = false := hk.frozen 2
            have hst := only_set (only_set (only_set (only_refl wx (some bb)) 0 (.int .i64 0)) 1 (.int .i64 0)) 2 (.slice A9 0 c9)
            refine rel_skip rfl rfl ?_ (below_of_only hC hst hC.size hbw) (.inr trivial) (CuA_store hk)
            generalize a.eval = ρ at e e2 ⊢
            simp [execOp, go_sem, e, e2, k0, k1, k2, f0, f1, f2]
          · intro a wx hC hE hD
            obtain ⟨v13, e, hR13⟩ := rel_dep (d := 55) rfl (hD 13 _ rfl (by kernel_rfl))
            have hR13' : v13 = (.iface 121 (.pointer (some (A 2)))) := hR13
            subst hR13'
            clear hR13
            refine rel_value (v := (.iface 121 (.pointer (some (A 2))))) rfl rfl ?_ hC rfl (fun _ _ h => h)
            generalize a.eval = ρ at e ⊢
            simp [execOp, go_sem, e]
        · intro vs w' hC hV
          obtain ⟨_, _, _, _, _, _, _, _, _, _, _, _, _, _, _, _, h16, _⟩ := hV
          have h16' : vs 16 = (.iface 121 (.pointer (some (A 2)))) := h16
          simp only [putAll, Act.put, List.setIfInBounds_toArray, List.set_cons_zero, List.set_cons_succ, Nat.zero_add, Nat.reduceAdd]
          rw [h16']
          go_wp2_with fail
          go_meet
          exact ⟨rfl, hC⟩
      case rest =>
        obtain ⟨rfl, hbc⟩ := hcut
        have HBY := Lib.hid (HBX.out.trans (hbc.mono HBX.out.size))
        have HKY := Lib.hid (HKX.out.below hbc HKX.out.lt)
        have HEY := Lib.hid (HEX.out.to hbc hbc.size)
        have HXB := Lib.hid ((SlN.below HXB0.out hbc).more hbc.size)
        obtain ⟨wY, hwY⟩ : ∃ wY, wY = wc := ⟨_, rfl⟩
        rw [← hwY] at HBY HKY HEY HXB ⊢
        clear hbc hwY
        go_upto_region 8 with (fail)
        go_cut [12, 13] from 57 to 69 (fun _ s13 wc => s13 = .iface 121 (.pointer (some (A 3))) ∧ Below wY.heap.size wY wc)
        case first =>
          refine wp_region_rel (fun w' => Below wY.heap.size wY w') (CuB wY g o p (.slice (some ⟨b7, o7, none⟩) N c7) 0 (.slice (some ⟨b7, o7 + 8, none⟩) (N - 8) (c7 - 8)) XB SB sig (.iface 121 (.pointer (some (A 3))))) (by kernel_rfl) (by kernel_rfl) (by kernel_rfl) (below_drewN (Below.refl _ _) 1) ?_ ?_
          · refine allSteps_cons ?_ (allSteps_cons ?_ (allSteps_cons ?_ (allSteps_cons ?_ (allSteps_cons ?_ (allSteps_cons ?_ (allSteps_cons ?_ (allSteps_cons ?_ (allSteps_cons ?_ (allSteps_cons ?_ (allSteps_cons ?_ (allSteps_cons ?_ (allSteps_cons ?_ (allSteps_cons ?_ (allSteps_cons ?_ (allSteps_cons ?_ (allSteps_cons ?_ (allSteps_nil)))))))))))))))))
            · intro a wx hC hE hD
              have e : a.eval (.tmp 3) = .pointer (some ⟨g, 0, none⟩) := hE 3 (by kernel_rfl)
              refine rel_value (v := .pointer (some ⟨g, 0, none⟩)) rfl rfl ?_ hC rfl (fun _ _ h => h)
              generalize a.eval = ρ at e ⊢
              simp [execOp, go_sem, e]
            · intro a wx hC hE hD
              obtain ⟨v0, e, hR0⟩ := rel_dep (d := 57) rfl (hD 0 _ rfl (by kernel_rfl))
              have hR0' : v0 = .pointer (some ⟨g, 0, none⟩) := hR0
              subst hR0'
              clear hR0
              have hc' : wx.cell? ⟨g, 0, none⟩ = some (.int .i64 o) := (HKY.out.below hC HKY.out.lt).cell 0
              refine rel_value (v := .int .i64 o) rfl rfl ?_ hC rfl (fun _ _ h => h)
              generalize a.eval = ρ at e ⊢
              simp [execOp, go_sem, e, hc']
            · intro a wx hC hE hD
              have e : a.eval (.tmp 3) = .pointer (some ⟨g, 0, none⟩) := hE 3 (by kernel_rfl)
              refine rel_value (v := .pointer (some ⟨g, 1, none⟩)) rfl rfl ?_ hC rfl (fun _ _ h => h)
              generalize a.eval = ρ at e ⊢
              simp [execOp, go_sem, e]
            · intro a wx hC hE hD
              obtain ⟨v2, e, hR2⟩ := rel_dep (d := 59) rfl (hD 2 _ rfl (by kernel_rfl))
              have hR2' : v2 = .pointer (some ⟨g, 1, none⟩) := hR2
              subst hR2'
              clear hR2
              have hc' : wx.cell? ⟨g, 1, none⟩ = some (.int .i64 p) := (HKY.out.below hC HKY.out.lt).cell 1
              refine rel_value (v := .int .i64 p) rfl rfl ?_ hC rfl (fun _ _ h => h)
              generalize a.eval = ρ at e ⊢
              simp [execOp, go_sem, e, hc']
            · intro a wx hC hE hD
              have e : a.eval (.tmp 7) = .slice (some ⟨b7, o7, none⟩) N c7 := hE 7 (by kernel_rfl)
              refine rel_value (v := .slice (some ⟨b7, o7, none⟩) N c7) rfl rfl ?_ hC rfl (fun _ _ h => h)
              generalize a.eval = ρ at e ⊢
              simp [execOp, go_sem, e]
            · intro a wx hC hE hD
              obtain ⟨v4, e, hR4⟩ := rel_dep (d := 61) rfl (hD 4 _ rfl (by kernel_rfl))
              have hR4' : v4 = .slice (some ⟨b7, o7, none⟩) N c7 := hR4
              subst hR4'
              clear hR4
              refine rel_value (v := .slice (some ⟨b7, o7 + 8, none⟩) (N - 8) (c7 - 8)) rfl rfl ?_ hC rfl (fun _ _ h => h)
              have e3 : a.eval (.const (.int .i64 8)) = .int .i64 8 := rfl
              generalize a.eval = ρ at e e3 ⊢
              simp [execOp, go_sem, e, e3, hN8, hc8]
            · intro a wx hC hE hD
              obtain ⟨v5, e, hR5⟩ := rel_dep (d := 62) rfl (hD 5 _ rfl (by kernel_rfl))
              have hR5' : v5 = .slice (some ⟨b7, o7 + 8, none⟩) (N - 8) (c7 - 8) := hR5
              subst hR5'
              clear hR5
              have hsl : SlN wx wx.heap.size 1 (.slice (some ⟨b7, o7 + 8, none⟩) (N - 8) (c7 - 8)) (N - 8) (bv XB) := ((HXB.out).below hC).more hC.size
              have hcv := conv_str Tryd.underlying30 Tryd.underlying5 Tryd.underlying9 hsl
              refine rel_value (v := .string (strB XB)) rfl rfl ?_ hC ⟨rfl, rfl⟩ (fun _ _ h => h)
              generalize a.eval = ρ at e ⊢
              simp [execOp, go_sem, e, hcv]
            · intro a wx hC hE hD
              obtain ⟨v6, e, hR6⟩ := rel_dep (d := 63) rfl (hD 6 _ rfl (by kernel_rfl))
              have hR6' : v6 = .string (strB XB) := hR6.1
              subst hR6'
              refine rel_value (v := .string SB) rfl rfl ?_ hC rfl (fun _ _ h => h)
              have e3 : a.eval (.const (.string { data := #[0, 0, 0, 0] })) = .string { data := #[0, 0, 0, 0] } := rfl
              generalize a.eval = ρ at e e3 ⊢
              simp [execOp, go_sem, e, e3, ← HSB.out, hXBz]
            · intro a wx hC hE hD
              obtain ⟨v1, e1, hR1⟩ := rel_dep (d := 58) rfl (hD 1 _ rfl (by kernel_rfl))
              have hR1' : v1 = .int .i64 o := hR1
              subst hR1'
              clear hR1
              obtain ⟨v3, e3, hR3⟩ := rel_dep (d := 60) rfl (hD 3 _ rfl (by kernel_rfl))
              have hR3' : v3 = .int .i64 p := hR3
              subst hR3'
              clear hR3
              obtain ⟨v7, e7, hR7⟩ := rel_dep (d := 64) rfl (hD 7 _ rfl (by kernel_rfl))
              have hR7' : v7 = .string SB := hR7
              subst hR7'
              clear hR7
              refine rel_value (v := .agg #[.int .i64 o, .int .i64 p, .string SB]) rfl rfl ?_ hC rfl (fun _ _ h => h)
              generalize a.eval = ρ at e1 e3 e7 ⊢
              simp [execOp, go_sem, e1, e3, e7]
            · intro a wx hC hE hD
              have e : a.eval (.tmp 1) = .string sig := hE 1 (by kernel_rfl)
              refine rel_value (v := .string sig) rfl rfl ?_ hC rfl (fun _ _ h => h)
              generalize a.eval = ρ at e ⊢
              simp [execOp, go_sem, e]
            · intro a wx hC hE hD
              obtain ⟨v8, e8, hR8⟩ := rel_dep (d := 65) rfl (hD 8 _ rfl (by kernel_rfl))
              have hR8' : v8 = .agg #[.int .i64 o, .int .i64 p, .string SB] := hR8
              subst hR8'
              clear hR8
              obtain ⟨v9, e9, hR9⟩ := rel_dep (d := 66) rfl (hD 9 _ rfl (by kernel_rfl))
              have hR9' : v9 = .string sig := hR9
              subst hR9'
              clear hR9
              refine rel_call rfl rfl (exec_call2 rfl e8 e9 hfn) ((wget_any A allErrs H1 H2 H3 H4 o p SB sig _ HTSB.out wx (HEY.out.to hC hC.size) HZSB.out HSIG.out).mono ?_)
              rintro e2 w2 ⟨vv, rfl, hown, hb2⟩
              have hb3 := hC.trans (hb2.mono hC.size)
              rw [HMSB.out, errV_pos A (by omega), if_neg (by omega), if_neg (by omega)]
              have hL : mgetL o p (XB ++ [0, 0, 0, 0]) sig = [] := by unfold mgetL; rw [if_neg (by rw [HMSB.out]; omega)]
              rw [hL] at hown
              obtain ⟨A9, c9, rfl⟩ := own_slice' hown
              exact ⟨_, rfl, hb3, ⟨A9, c9, rfl⟩, CuB_keep hb2⟩
            · intro a wx hC hE hD
              obtain ⟨v10, e, hR10⟩ := rel_dep (d := 67) rfl (hD 10 _ rfl (by kernel_rfl))
              have hQ10 : ∃ A9 c9, v10 = .tuple #[.agg #[.int .i64 0, .int .i64 0, .slice A9 0 c9], (.iface 121 (.pointer (some (A 3))))] := hR10
              clear hR10
              refine rel_value (v := v10) rfl rfl ?_ hC hQ10 (fun _ _ h => h)
              generalize a.eval = ρ at e ⊢
              simp [execOp, go_sem, e]
            · intro a wx hC hE hD
              obtain ⟨v11, e, hR11⟩ := rel_dep (d := 56) rfl (hD 11 _ rfl (by kernel_rfl))
              have hQ11 : ∃ A9 c9, v11 = .tuple #[.agg #[.int .i64 0, .int .i64 0, .slice A9 0 c9], (.iface 121 (.pointer (some (A 3))))] := hR11
              clear hR11
              obtain ⟨A9, c9, hv⟩ := hQ11
              rw [hv] at e
              refine rel_value (v := .agg #[.int .i64 0, .int .i64 0, .slice A9 0 c9]) rfl rfl ?_ hC ⟨A9, c9, rfl⟩ (fun _ _ h => h)
              clear hv
              generalize a.eval = ρ at e ⊢
              simp [execOp, go_sem, e]
            · intro a wx hC hE hD
              obtain ⟨v11, e, hR11⟩ := rel_dep (d := 56) rfl (hD 11 _ rfl (by kernel_rfl))
              have hQ11 : ∃ A9 c9, v11 = .tuple #[.agg #[.int .i64 0, .int .i64 0, .slice A9 0 c9], (.iface 121 (.pointer (some (A 3))))] := hR11
              clear hR11
              obtain ⟨A9, c9, hv⟩ := hQ11
              rw [hv] at e
              refine rel_value (v := (.iface 121 (.pointer (some (A 3))))) rfl rfl ?_ hC rfl (fun _ _ h => h)
              clear hv
              generalize a.eval = ρ at e ⊢
              simp [execOp, go_sem, e]
            · intro a wx hC hE hD
              have hbb : Below wx.heap.size wx (wx.alloc (.cells #[.int .i64 0, .int .i64 0, .slice none 0 0] 29)) := (Below.refl _ _).alloc (Nat.le_refl _) _
              refine rel_value (w' := wx.alloc (.cells #[.int .i64 0, .int .i64 0, .slice none 0 0] 29)) (v := .pointer (some ⟨wx.heap.size, 0, none⟩)) rfl rfl ?_ (hC.trans (hbb.mono hC.size)) ⟨_, rfl, hC.size, _, _, _, Blk.new _ _ _⟩ (CuB_keep hbb)
              generalize a.eval = ρ
              simp [execOp, go_sem]
            · intro a wx hC hE hD
              obtain ⟨v14, e, hR14⟩ := rel_dep (d := 12) rfl (hD 14 _ rfl (by kernel_rfl))
              have hQ14 : ∃ b, v14 = .pointer (some ⟨b, 0, none⟩) ∧ wY.heap.size ≤ b ∧ ∃ x y z, Blk wx b 29 #[x, y, z] := hR14
              clear hR14
              obtain ⟨v12, e2, hR12⟩ := rel_dep (d := 68) rfl (hD 12 _ rfl (by kernel_rfl))
              have hQ12 : ∃ A c, v12 = .agg #[.int .i64 0, .int .i64 0, .slice A 0 c] := hR12
              clear hR12
              obtain ⟨bb, hv, hbw, x0, y0, z0, hk⟩ := hQ14
              rw [hv] at e
              obtain ⟨A9, c9, hv2⟩ := hQ12
              rw [hv2] at e2
              clear hv hv2
              have k0 : wx.cell? ⟨bb, 0, none⟩ = some x0 := hk.cell 0
              have k1 : wx.cell? ⟨bb, 1, none⟩ = some y0 := hk.cell 1
              have k2 : wx.cell? ⟨bb, 2, none⟩ = some z0 := hk.cell 2
              have f0 : wx.frozen? ⟨bb, 0, none⟩ = false := hk.frozen 0
              have f1 : wx.frozen? ⟨bb, 1, none⟩ = false := hk.frozen 1
              have f2 : wx.frozen? ⟨bb, 2, none⟩ = false := hk.frozen 2
              have hst := only_set (only_set (only_set (only_refl wx (some bb)) 0 (.int .i64 0)) 1 (.int .i64 0)) 2 (.slice A9 0 c9)
              refine rel_skip rfl rfl ?_ (below_of_only hC hst hC.size hbw) (.inr trivial) (CuB_store hk)
              generalize a.eval = ρ at e e2 ⊢
              simp [execOp, go_sem, e, e2, k0, k1, k2, f0, f1, f2]
            · intro a wx hC hE hD
              obtain ⟨v13, e, hR13⟩ := rel_dep (d := 69) rfl (hD 13 _ rfl (by kernel_rfl))
              have hR13' : v13 = (.iface 121 (.pointer (some (A 3)))) := hR13
              subst hR13'
              clear hR13
              refine rel_value (v := (.iface 121 (.pointer (some (A 3))))) rfl rfl ?_ hC rfl (fun _ _ h => h)
              generalize a.eval = ρ at e ⊢
              simp [execOp, go_sem, e]
          · intro vs w' hC hV
            obtain ⟨_, _, _, _, _, _, _, _, _, _, _, _, _, _, _, _, h16, _⟩ := hV
            have h16' : vs 16 = (.iface 121 (.pointer (some (A 3)))) := h16
            simp only [putAll, Act.put, List.setIfInBounds_toArray, List.set_cons_zero, List.set_cons_succ, Nat.zero_add, Nat.reduceAdd]
            rw [h16']
            go_wp2_with fail
            go_meet
            exact ⟨rfl, hC⟩
        case rest =>
          obtain ⟨rfl, hbc⟩ := hcut
          have HBZ := Lib.hid (HBY.out.trans (hbc.mono HBY.out.size))
          clear hbc
          go_wp2_with fail
          refine (kind_err A 2 (by omega) (by omega) wc (HE.out.to HBZ.out HBZ.out.size)).mono ?_
          rintro e w6 ⟨rfl, hb6⟩
          have HB6 := Lib.hid (HBZ.out.trans (hb6.mono HBZ.out.size))
          clear hb6
          go_wp2_with fail
          refine (kind_err A 3 (by omega) (by omega) w6 (HE.out.to HB6.out HB6.out.size)).mono ?_
          rintro e w7 ⟨rfl, hb7⟩
          have HB7 := Lib.hid (HB6.out.trans (hb7.mono HB6.out.size))
          clear hb7
          go_wp2_with fail
          refine (w4awake_any A allErrs H1 H4 w7 (HE.out.to HB7.out HB7.out.size)).mono ?_
          rintro e w8 ⟨rfl, hb8⟩
          go_wp2
          go_ret
          exact ⟨rfl, HB7.out.trans (hb8.mono HB7.out.size)⟩
    · rw [errV_pos A (by omega)]
      clear hq0
      go_wp2_with fail
      refine (w4awake_any A allErrs H1 H4 w4 (HE.out.to HB4.out HB4.out.size)).mono ?_
      rintro e w5 ⟨rfl, hb5⟩
      go_wp2
      go_ret
      exact ⟨rfl, HB4.out.trans (hb5.mono HB4.out.size)⟩
end Go.Proofs.YtihbgkighckiiaaDoor
