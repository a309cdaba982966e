/- FaultWraps: the walk. No condition but what is laid. -/
import Derived.Test.YtplegaadljbhoaaDoorFAwake
import Derived.Test.YtplegaadljbhoaaDoorFText
import Derived.OpenShut
namespace Go.Proofs.YtplegaadljbhoaaDoor
open Go.RowKit Go.Extern.Stop Go.Stop Go.Extern
set_option linter.unusedVariables false
set_option maxRecDepth 100000

theorem gtx_size (k : Nat) : (gtx k).size ≤ 20 := by
  by_cases h : k ≤ 16
  · have : k = 0 ∨ k = 1 ∨ k = 2 ∨ k = 3 ∨ k = 4 ∨ k = 5 ∨ k = 6 ∨ k = 7 ∨ k = 8 ∨ k = 9 ∨ k = 10 ∨ k = 11 ∨ k = 12 ∨ k = 13 ∨ k = 14 ∨ k = 15 ∨ k = 16 := by omega
    rcases this with rfl | rfl | rfl | rfl | rfl | rfl | rfl | rfl | rfl | rfl | rfl | rfl | rfl | rfl | rfl | rfl | rfl <;> decide
  · have : gtext k = [] := by
      unfold gtext
      split <;> first | omega | rfl
    simp [gtx, this, ByteArray.size]
set_option maxHeartbeats 1600000 in
theorem fwraps_walk (A : Nat → Addr) (kd : Int) (a b : ByteArray) (w : World) (hE : Errs w w.heap.size allErrs A) (hy : ETy w w.heap.size) (hkd : (Lit.int .i64 kd).wf = true) (ha : a.size ≤ 140737488351232) (hb : b.size ≤ 140737488351232) :
    Calls Tryd.prog 4 #[.int .i64 kd, .string a, .string b] w fun e w' => e = .returned (.bool true) ∧ Below w.heap.size w w' := by
  have HE := Lib.hid hE
  have HY := Lib.hid hy
  clear hE hy hkd
  by_cases hsa : 200 < a.size
  · have d1 : decide (200 < (a.size : Int)) = true := by simp; omega
    go_enter Tryd.func4, Tryd.ntmps4
    go_wp2_with fail
    refine (f2awake_any A w HE.out HY.out).mono ?_
    rintro e w1 ⟨rfl, hb1⟩
    go_wp2_with fail
    go_ret
    exact ⟨rfl, hb1⟩
  have d1 : decide (200 < (a.size : Int)) = false := by simp; omega
  by_cases hsb : 200 < b.size
  · have d2 : decide (200 < (b.size : Int)) = true := by simp; omega
    go_enter Tryd.func4, Tryd.ntmps4
    go_wp2_with fail
    refine (f2awake_any A w HE.out HY.out).mono ?_
    rintro e w1 ⟨rfl, hb1⟩
    go_wp2_with fail
    go_ret
    exact ⟨rfl, hb1⟩
  have d2 : decide (200 < (b.size : Int)) = false := by simp; omega
  go_enter Tryd.func4, Tryd.ntmps4
  go_wp2_with fail
  refine (place_any kd 16 w (by omega) (by omega)).mono ?_
  rintro e w1 ⟨rfl, rfl⟩
  obtain ⟨i, hi⟩ : ∃ i : Nat, kd % 16 = (i : Int) := ⟨(kd % 16).toNat, by omega⟩
  have hi16 : i < 16 := by omega
  rw [hi]
  have HI := Lib.hid hi
  clear hi
  go_wp2_with fail
  refine (error_ok A i hi16 _ (by omega) w HE.out).mono ?_
  rintro e w1 ⟨rfl, hb1⟩
  have HB1 := Lib.hid hb1
  obtain ⟨k, hk⟩ : ∃ k, k = i + 1 := ⟨_, rfl⟩
  rw [← hk]
  have HK := Lib.hid hk
  have hk1 : 1 ≤ k := by omega
  have hk2 : k ≤ 16 := by omega
  clear hb1 hk hi16
  have hW := wrap_any A (.base k) a w1 (show k ≤ 16 from hk2) (show ¬ k = 0 by omega)
  rw [show (EC.base k).val A = .iface 68 (.pointer (some (A k))) from errV_pos A hk1] at hW
  have HW := Lib.hid hW
  clear hW
  go_wp2_with fail
  refine HW.out.mono ?_
  rintro e w2 ⟨rfl, hat2, hb2⟩
  have HB2 := Lib.hid (HB1.out.trans (hb2.mono HB1.out.size))
  obtain ⟨e1, he1⟩ : ∃ e1, e1 = EC.wrap w1.heap.size a (.base k) := ⟨_, rfl⟩
  rw [← he1] at hat2 ⊢
  have HA2 := Lib.hid hat2
  have HE1 := Lib.hid he1
  clear hat2 he1 hb2 HW
  go_wp2_with fail
  refine (wrap_any A e1 b w2 HA2.out (by rw [HE1.out]; simp [EC.isNil])).mono ?_
  rintro e w3 ⟨rfl, hat3, hb3⟩
  have HB3 := Lib.hid (HB2.out.trans (hb3.mono HB2.out.size))
  obtain ⟨e2, he2⟩ : ∃ e2, e2 = EC.wrap w2.heap.size b e1 := ⟨_, rfl⟩
  rw [← he2] at hat3 ⊢
  have HA3 := Lib.hid hat3
  have HE2 := Lib.hid he2
  clear hat3 he2 hb3
  go_wp2_with fail
  refine (of_any A e2 w3 (HY.out.to HB3.out HB3.out.size) HA3.out (by rw [HE2.out]; simp [EC.isNil])).mono ?_
  rintro e w4 ⟨rfl, hb4⟩
  have hof : ofR A e2 = .tuple #[.agg #[.int .i64 0, .int .i64 0, .string ⟨#[]⟩, .nilIface], .bool false] := by rw [HE2.out, HE1.out]; rfl
  rw [hof]
  clear hof
  have hb5 := hb4.alloc hb4.size (.cells #[.int .i64 0, .int .i64 0, .string ⟨#[]⟩, .nilIface] 30)
  have HB5 := Lib.hid (HB3.out.trans (hb5.mono HB3.out.size))
  have HA5 := Lib.hid ((HA3.out.below (Nat.le_refl _) hb5).more hb5.size)
  clear hb4 hb5
  go_upto_region 6 with (fail)
  generalize w4.alloc (.cells #[.int .i64 0, .int .i64 0, .string ⟨#[]⟩, .nilIface] 30) = w5 at HB5 HA5 ⊢
  obtain ⟨n1, hn1⟩ : ∃ n1, n1 = w1.heap.size := ⟨_, rfl⟩
  obtain ⟨n2, hn2⟩ : ∃ n2, n2 = w2.heap.size := ⟨_, rfl⟩
  rw [← hn1] at HE1
  rw [← hn2] at HE2
  have hv : e2.val A = .iface 48 (.pointer (some ⟨n2, 0, none⟩)) := by rw [HE2.out]; rfl
  rw [hv]
  have hat := HA5.out
  rw [HE2.out, HE1.out] at hat
  obtain ⟨_, hblk2, _, _, hblk1, _, _⟩ := hat
  have hblk2 : Blk w5 n2 50 #[.string b, .iface 48 (.pointer (some ⟨n1, 0, none⟩))] := hblk2
  have hblk1 : Blk w5 n1 50 #[.string a, .iface 68 (.pointer (some (A k)))] := by
    have h : Blk w5 n1 50 #[.string a, (EC.base k).val A] := hblk1
    rwa [show (EC.base k).val A = .iface 68 (.pointer (some (A k))) from errV_pos A hk1] at h
  have hgk := gtx_size k
  have hee : ∀ w', Below w5.heap.size w5 w' → Errs w' w'.heap.size allErrs A := fun w' h => HE.out.to (HB5.out.trans (h.mono HB5.out.size)) (HB5.out.trans (h.mono HB5.out.size)).size
  have hyy : ∀ w', Below w5.heap.size w5 w' → ETy w' w'.heap.size := fun w' h => HY.out.to (HB5.out.trans (h.mono HB5.out.size)) (HB5.out.trans (h.mono HB5.out.size)).size
  have hsz1 : (a ++ ⟨#[58, 32]⟩ ++ gtx k : ByteArray).size ≤ 1000000 := by
    have h2 : (⟨#[58, 32]⟩ : ByteArray).size = 2 := rfl
    rw [ByteArray.size_append, ByteArray.size_append, h2]
    clear HE1 HE2 HA5 HE HY hblk1 hblk2 hee hyy
    omega
  have hT1 : ∀ w', Below w5.heap.size w5 w' → Calls Tryd.prog 51 #[.pointer (some ⟨n1, 0, none⟩)] w' fun e w2 => e = .returned (.string (a ++ ⟨#[58, 32]⟩ ++ gtx k)) ∧ Below w'.heap.size w' w2 := fun w' h =>
    wtext_any n1 a (gtx k) _ _ 56 w' (hblk1.below h hblk1.lt) (Tryd.errE _) (fun args w => by kernel_rfl)
      (fun w'' h' => (etext_any A k hk1 hk2 w'' (hee w'' (h.trans (h'.mono h.size)))).mono fun e w3 ⟨h1, h2⟩ => ⟨h1, by rw [← h2]; exact Below.refl _ _⟩) (by omega) (by omega)
  have hT2 := wtext_any n2 b (a ++ ⟨#[58, 32]⟩ ++ gtx k) _ _ 51 w5 hblk2 (Tryd.errW _) (fun args w => by kernel_rfl) hT1 (by omega) hsz1
  have hEQ : (b ++ ⟨#[58, 32]⟩ ++ (a ++ ⟨#[58, 32]⟩ ++ gtx k) : ByteArray) = b ++ ⟨#[58, 32]⟩ ++ a ++ ⟨#[58, 32]⟩ ++ gtx k := by
    simp [ByteArray.append_assoc]
  rw [hEQ] at hT2
  have HT2 := Lib.hid hT2
  have hki : (k : Int) = 1 + (i : Int) := by rw [HK.out, Int.natCast_add, Int.add_comm]; rfl
  obtain ⟨m, hm⟩ : ∃ m : Int, m = 1 + (i : Int) := ⟨_, rfl⟩
  rw [← hm] at hki
  have HMM : Hid (1 + (i : Int) = m ∧ 1 ≤ m ∧ m ≤ 16) := ⟨hm.symm, by omega, by omega⟩
  clear hm
  have HIS : Hid (∀ w', Below w5.heap.size w5 w' → Calls Tryd.prog 18 #[.iface 48 (.pointer (some ⟨n2, 0, none⟩)), .iface 68 (.pointer (some (A k)))] w' fun e w2 => e = .returned (.bool true) ∧ w' = w2) := fun w' h => by
    have := fis_any A e2 k hk1 hk2 w' (hee w' h) ((HA5.out.below (Nat.le_refl _) h).more h.size) (by rw [HE2.out]; simp [EC.isNil])
    rw [hv, show decide (e2.root = k) = true by rw [HE2.out, HE1.out]; simp [EC.root]] at this
    exact this
  have HKD : Hid (∀ w', Below w5.heap.size w5 w' → Calls Tryd.prog 17 #[.iface 48 (.pointer (some ⟨n2, 0, none⟩))] w' fun e w2 => e = .returned (.int .i64 m) ∧ Below w'.heap.size w' w2) := fun w' h => by
    have := fkind_any A e2 w' (hee w' h) ((HA5.out.below (Nat.le_refl _) h).more h.size) (by rw [HE2.out]; simp [EC.isNil])
    have hkr : kindR e2 = k := by rw [HE2.out, HE1.out]; show (if k = 0 then 17 else k) = k; rw [if_neg (by omega)]
    rw [hv, hkr, hki] at this
    exact this
  have HEE := Lib.hid hee
  have HYY := Lib.hid hyy
  have mW := Tryd.errW
  have mE := Tryd.errE
  have HET : Hid (∀ w', Below w5.heap.size w5 w' → Calls Tryd.prog 56 #[.pointer (some (A k))] w' fun e w2 => e = .returned (.string (gtx k)) ∧ w' = w2) := fun w' h => etext_any A k hk1 hk2 w' (HEE.out w' h)
  generalize gtx k = gk at hgk HT2 HET
  have z1 : b.size + 2 ≤ 9223372036854775807 := by omega
  have z2 : b.size + 2 + a.size ≤ 9223372036854775807 := by omega
  have z3 : b.size + 2 + a.size + 2 ≤ 9223372036854775807 := by omega
  have z4 : b.size + 2 + a.size + 2 + gk.size ≤ 9223372036854775807 := by omega
  clear hki hT1 hT2 hblk1 hblk2 hee hyy hsz1 hEQ hv hn1 hn2 hgk
  go_wp2_with fail
  refine HT2.out.mono ?_
  rintro e w6 ⟨rfl, hb6⟩
  go_wp2_with fail
  refine (HET.out w6 hb6).mono ?_
  rintro e w7 ⟨rfl, rfl⟩
  go_wp2_with fail
  refine (wrap_nil _ _).mono ?_
  rintro e w7 ⟨rfl, rfl⟩
  go_wp2_with fail
  refine (HIS.out w6 hb6).mono ?_
  rintro e w7 ⟨rfl, rfl⟩
  go_wp2_with fail
  refine (HKD.out w6 hb6).mono ?_
  rintro e w8 ⟨rfl, hb8⟩
  have HB8 := Lib.hid (hb6.trans (hb8.mono hb6.size))
  clear hb6 hb8
  go_wp2_with fail
  refine (place_any kd 16 w8 (by omega) (by omega)).mono ?_
  rintro e w9 ⟨rfl, rfl⟩
  rw [HI.out]
  obtain ⟨hm1, hm2, hm3⟩ := HMM.out
  go_wp2_with fail
  refine (f2awake_any A w8 (HEE.out w8 HB8.out) (HYY.out w8 HB8.out)).mono ?_
  rintro e w9 ⟨rfl, hb9⟩
  go_wp2_with fail
  go_ret
  exact ⟨rfl, HB5.out.trans ((HB8.out.trans (hb9.mono HB8.out.size)).mono HB5.out.size)⟩
end Go.Proofs.YtplegaadljbhoaaDoor
