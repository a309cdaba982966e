/- FaultFirst: the walk. No condition but what is laid. -/
import Derived.Test.YtplegaadljbhoaaDoorFNewW
import Derived.Test.YtplegaadljbhoaaDoorFaultWraps
namespace Go.Proofs.YtplegaadljbhoaaDoor
open Go.RowKit Go.Extern.Stop Go.Stop Go.Extern
set_option linter.unusedVariables false
set_option maxRecDepth 100000

set_option maxHeartbeats 1600000 in
theorem ffirst_walk (A : Nat → Addr) (a b kd : Int) (s : ByteArray) (w : World) (hE : Errs w w.heap.size allErrs A) (hy : ETy w w.heap.size) (ha : (Lit.int .i64 a).wf = true) (hb : (Lit.int .i64 b).wf = true) (hkd : (Lit.int .i64 kd).wf = true) (hs : s.size ≤ 140737488351232) :
    Calls Tryd.prog 3 #[.int .i64 a, .int .i64 b, .int .i64 kd, .string s] w fun e w' => e = .returned (.bool true) ∧ Below w.heap.size w w' := by
  have HE := Lib.hid hE
  have HY := Lib.hid hy
  clear hE hy hkd ha hb
  by_cases hsa : 200 < s.size
  · have d1 : decide (200 < (s.size : Int)) = true := by simp; omega
    go_enter Tryd.func3, Tryd.ntmps3
    go_wp2_with fail
    refine (f2awake_any A w HE.out HY.out).mono ?_
    rintro e w1 ⟨rfl, hb1⟩
    go_wp2_with fail
    go_ret
    exact ⟨rfl, hb1⟩
  have d1 : decide (200 < (s.size : Int)) = false := by simp; omega
  go_enter Tryd.func3, Tryd.ntmps3
  go_wp2_with fail
  refine (place_any kd 16 w (by omega) (by omega)).mono ?_
  rintro e w1 ⟨rfl, rfl⟩
  obtain ⟨i, hi⟩ : ∃ i : Nat, kd % 16 = (i : Int) := ⟨(kd % 16).toNat, by omega⟩
  have hi16 : i < 16 := by omega
  rw [hi]
  have HI := Lib.hid hi
  clear hi
  go_wp2_with fail
  refine (error_ok A i hi16 _ (by omega) w HE.out).mono ?_
  rintro e w1 ⟨rfl, hb1⟩
  have HB1 := Lib.hid hb1
  obtain ⟨k, hk⟩ : ∃ k, k = i + 1 := ⟨_, rfl⟩
  rw [← hk]
  have HK := Lib.hid hk
  have hk1 : 1 ≤ k := by omega
  have hk2 : k ≤ 16 := by omega
  clear hb1 hk hi16
  go_wp2_with fail
  refine (new_err A k hk1 hk2 a 1 w1 (HE.out.to HB1.out HB1.out.size)).mono ?_
  rintro e w2 ⟨rfl, hat2, hb2⟩
  have HB2 := Lib.hid (HB1.out.trans (hb2.mono HB1.out.size))
  obtain ⟨e1, he1⟩ : ∃ e1, e1 = EC.fault w1.heap.size a 1 (gtx k) (.base k) := ⟨_, rfl⟩
  rw [← he1] at hat2 ⊢
  have HA2 := Lib.hid hat2
  have HE1 := Lib.hid he1
  clear hat2 he1 hb2
  go_wp2_with fail
  refine (wrap_any A e1 s w2 HA2.out (by rw [HE1.out]; simp [EC.isNil])).mono ?_
  rintro e w3 ⟨rfl, hat3, hb3⟩
  have HB3 := Lib.hid (HB2.out.trans (hb3.mono HB2.out.size))
  have HA3 := Lib.hid hat3
  clear hat3 hb3
  obtain ⟨n1, hn1⟩ : ∃ n1, n1 = w1.heap.size := ⟨_, rfl⟩
  obtain ⟨n2, hn2⟩ : ∃ n2, n2 = w2.heap.size := ⟨_, rfl⟩
  rw [← hn1] at HE1
  rw [← hn2] at HA3 ⊢
  have hat := HA3.out
  rw [HE1.out] at hat
  obtain ⟨_, hblk2, _, _, hblk1, _⟩ := hat
  have hblk2 : Blk w3 n2 50 #[.string s, .iface 33 (.pointer (some ⟨n1, 0, none⟩))] := hblk2
  have hgk := gtx_size k
  have hT1 : ∀ w', Below w3.heap.size w3 w' → Calls Tryd.prog 51 #[.pointer (some ⟨n2, 0, none⟩)] w' fun e w2 => e = .returned (.string (s ++ ⟨#[58, 32]⟩ ++ gtx k)) ∧ Below w'.heap.size w' w2 := fun w' h =>
    wtext_any n2 s (gtx k) _ _ 15 w' (hblk2.below h hblk2.lt) (Tryd.errF _) (fun args w => by kernel_rfl)
      (fun w'' h' => (ftext_any n1 a 1 (gtx k) _ w'' (hblk1.below (h.trans (h'.mono h.size)) hblk1.lt)).mono fun e w3 ⟨h1, h2⟩ => ⟨h1, by rw [← h2]; exact Below.refl _ _⟩) (by omega) (by omega)
  obtain ⟨tx, htx⟩ : ∃ tx, tx = s ++ ⟨#[58, 32]⟩ ++ gtx k := ⟨_, rfl⟩
  rw [← htx] at hT1
  have HT1 := Lib.hid hT1
  have HNW := Lib.hid (new_wrapped A n2 s tx e1 b 2 w3 HA3.out hT1)
  clear hT1 hblk1 hblk2 htx hgk hn1 hn2
  rw [show (EC.wrap n2 s e1).val A = .iface 48 (.pointer (some ⟨n2, 0, none⟩)) from rfl]
  go_wp2_with fail
  refine HNW.out.mono ?_
  rintro e w4 ⟨rfl, hat4, hb4⟩
  have HB4 := Lib.hid (HB3.out.trans (hb4.mono HB3.out.size))
  have HC4 := Lib.hid hb4
  obtain ⟨n3, hn3⟩ : ∃ n3, n3 = w3.heap.size := ⟨_, rfl⟩
  rw [← hn3] at hat4 ⊢
  obtain ⟨e3, he3⟩ : ∃ e3, e3 = EC.fault n3 b 2 tx (EC.wrap n2 s e1) := ⟨_, rfl⟩
  rw [← he3] at hat4 ⊢
  have HA4 := Lib.hid hat4
  have HE3 := Lib.hid he3
  clear hat4 hb4 he3 hn3 HNW
  go_wp2_with fail
  refine (wrap_any A e3 s w4 HA4.out (by rw [HE3.out]; simp [EC.isNil])).mono ?_
  rintro e w5 ⟨rfl, hat5, hb5⟩
  have HB5 := Lib.hid (HB4.out.trans (hb5.mono HB4.out.size))
  have HC5 := Lib.hid (HC4.out.trans (hb5.mono HC4.out.size))
  obtain ⟨n4, hn4⟩ : ∃ n4, n4 = w4.heap.size := ⟨_, rfl⟩
  rw [← hn4] at hat5 ⊢
  obtain ⟨e4, he4⟩ : ∃ e4, e4 = EC.wrap n4 s e3 := ⟨_, rfl⟩
  rw [← he4] at hat5 ⊢
  have HA5 := Lib.hid hat5
  have HE4 := Lib.hid he4
  clear hat5 hb5 he4 hn4
  go_wp2_with fail
  refine (of_any A e4 w5 (HY.out.to HB5.out HB5.out.size) HA5.out (by rw [HE4.out]; simp [EC.isNil])).mono ?_
  rintro e w6 ⟨rfl, hb6⟩
  have hof : ofR A e4 = .tuple #[.agg #[.int .i64 b, .int .i64 2, .string tx, .iface 48 (.pointer (some ⟨n2, 0, none⟩))], .bool true] := by rw [HE4.out, HE3.out]; rfl
  rw [hof]
  clear hof
  have hb7 := hb6.alloc hb6.size (.cells #[.int .i64 b, .int .i64 2, .string tx, .iface 48 (.pointer (some ⟨n2, 0, none⟩))] 30)
  have HB7 := Lib.hid (HB5.out.trans (hb7.mono HB5.out.size))
  have HC7 := Lib.hid (HC5.out.trans (hb7.mono HC5.out.size))
  have HA7 := Lib.hid ((HA5.out.below (Nat.le_refl _) hb7).more hb7.size)
  have HK7 := Lib.hid (Blk.new w6 30 #[.int .i64 b, .int .i64 2, .string tx, .iface 48 (.pointer (some ⟨n2, 0, none⟩))])
  have HT7 : Hid (∀ w', Below (w6.alloc (.cells #[.int .i64 b, .int .i64 2, .string tx, .iface 48 (.pointer (some ⟨n2, 0, none⟩))] 30)).heap.size (w6.alloc (.cells #[.int .i64 b, .int .i64 2, .string tx, .iface 48 (.pointer (some ⟨n2, 0, none⟩))] 30)) w' → Calls Tryd.prog 51 #[.pointer (some ⟨n2, 0, none⟩)] w' fun e w2 => e = .returned (.string tx) ∧ Below w'.heap.size w' w2) := fun w' h => HT1.out w' (HC7.out.trans (h.mono HC7.out.size))
  clear hb6 hb7 HC7 HC5 HC4
  go_upto_region 7 with (fail)
  obtain ⟨n6, hn6⟩ : ∃ n6, n6 = w6.heap.size := ⟨_, rfl⟩
  rw [← hn6] at HK7 ⊢
  generalize w6.alloc (.cells #[.int .i64 b, .int .i64 2, .string tx, .iface 48 (.pointer (some ⟨n2, 0, none⟩))] 30) = w7 at HB7 HA7 HK7 HT7 ⊢
  have hb8 := (Below.refl w7.heap.size w7).alloc (Nat.le_refl _) (.cells #[.pointer none] 33)
  have HB8 := Lib.hid hb8
  have HA8 := Lib.hid ((HA7.out.below (Nat.le_refl _) hb8).more hb8.size)
  have HK8 := Lib.hid (Blk.new w7 33 #[.pointer none])
  clear hb8 hn6
  go_upto_region 8 with (fail)
  generalize w7.alloc (.cells #[.pointer none] 33) = w8 at HB8 HA8 HK8 ⊢
  go_wp2_with fail
  refine (as_any A e4 w7.heap.size w8 (HY.out.to (HB7.out.trans (HB8.out.mono HB7.out.size)) (HB7.out.trans (HB8.out.mono HB7.out.size)).size) HA8.out (by rw [HE4.out]; simp [EC.isNil]) HK8.out).mono ?_
  intro ev w9 hp
  have hh : e4.hit = some n3 := by rw [HE4.out, HE3.out]; rfl
  rw [hh] at hp
  obtain ⟨rfl, hg9, hk9⟩ := hp
  have hb9 : Below w7.heap.size w7 w9 := below_of_only HB8.out hg9 HB8.out.size (Nat.le_refl _)
  obtain ⟨t, ht⟩ : ∃ t, t = w7.heap.size := ⟨_, rfl⟩
  rw [← ht] at hk9 ⊢
  have HT := Lib.hid ht
  have HB9 := Lib.hid (HB7.out.trans (hb9.mono HB7.out.size))
  have HA9 := Lib.hid ((HA7.out.below (Nat.le_refl _) hb9).more hb9.size)
  have HK9 := Lib.hid (HK7.out.below hb9 HK7.out.lt)
  have HT9 : Hid (∀ w', Below w9.heap.size w9 w' → Calls Tryd.prog 51 #[.pointer (some ⟨n2, 0, none⟩)] w' fun e w2 => e = .returned (.string tx) ∧ Below w'.heap.size w' w2) := fun w' h => HT7.out w' (hb9.trans (h.mono hb9.size))
  have HH9 := Lib.hid hk9
  clear hb9 hg9 hk9 HT7 HK7 HK8 HA8 hh ht
  have hat := HA9.out
  rw [HE4.out, HE3.out] at hat
  obtain ⟨_, hblk4, _, _, hblk3, _⟩ := hat
  have hblk3 : Blk w9 n3 30 #[.int .i64 b, .int .i64 2, .string tx, .iface 48 (.pointer (some ⟨n2, 0, none⟩))] := hblk3
  have HF3 := Lib.hid hblk3
  clear hblk3 hblk4
  have c0 : w9.cell? ⟨t, 0, none⟩ = some (.pointer (some ⟨n3, 0, none⟩)) := HH9.out.cell 0
  go_upto_region 11 with (fail)
  have q0 : ∀ x : Later w9, x.w.cell? ⟨n6, 0, none⟩ = some (.int .i64 b) := fun x => x.cell (HK9.out.cell 0)
  have q1 : ∀ x : Later w9, x.w.cell? ⟨n6, 1, none⟩ = some (.int .i64 2) := fun x => x.cell (HK9.out.cell 1)
  have q2 : ∀ x : Later w9, x.w.cell? ⟨n6, 2, none⟩ = some (.string tx) := fun x => x.cell (HK9.out.cell 2)
  have q3 : ∀ x : Later w9, x.w.cell? ⟨t, 0, none⟩ = some (.pointer (some ⟨n3, 0, none⟩)) := fun x => x.cell (HH9.out.cell 0)
  have q4 : ∀ x : Later w9, x.w.cell? ⟨n3, 0, none⟩ = some (.int .i64 b) := fun x => x.cell (HF3.out.cell 0)
  have hee := fun x : Later w9 => HE.out.to (HB9.out.trans (x.h.mono HB9.out.size)) (HB9.out.trans (x.h.mono HB9.out.size)).size
  have hki : (k : Int) = 1 + (i : Int) := by rw [HK.out, Int.natCast_add, Int.add_comm]; rfl
  obtain ⟨m, hm⟩ : ∃ m : Int, m = 1 + (i : Int) := ⟨_, rfl⟩
  rw [← hm] at hki
  have hm' : 1 + (i : Int) = m := hm.symm
  have hm1 : 1 ≤ m := by omega
  have hm2 : m ≤ 16 := by omega
  have M1 : Hid (∀ x : Later w9, Calls Tryd.prog 51 #[.pointer (some ⟨n2, 0, none⟩)] x.w fun e w2 => e = .returned (.string tx) ∧ Below x.w.heap.size x.w w2) := fun x => HT9.out x.w x.h
  have M2 : Hid (∀ x : Later w9, Calls Tryd.prog 15 #[.pointer (some ⟨n3, 0, none⟩)] x.w fun e w2 => e = .returned (.string tx) ∧ x.w = w2) := fun x => ftext_any n3 b 2 tx _ x.w (HF3.out.below x.h HF3.out.lt)
  have M3 : Hid (∀ x : Later w9, Calls Tryd.prog 16 #[.iface 48 (.pointer (some ⟨n4, 0, none⟩)), .iface 68 (.pointer (some (A k)))] x.w fun e w' => e = .returned (.bool true) ∧ x.w = w') := fun x => by
    have := is_any A e4 k hk1 hk2 x.w (hee x) ((HA9.out.below (Nat.le_refl _) x.h).more x.h.size) (by rw [HE4.out]; simp [EC.isNil])
    rw [show decide (e4.root = k) = true by rw [HE4.out, HE3.out, HE1.out]; simp [EC.root]] at this
    rw [HE4.out] at this
    exact this
  have M4 : Hid (∀ x : Later w9, Calls Tryd.prog 17 #[.iface 48 (.pointer (some ⟨n4, 0, none⟩))] x.w fun e w' => e = .returned (.int .i64 m) ∧ Below x.w.heap.size x.w w') := fun x => by
    have := fkind_any A e4 x.w (hee x) ((HA9.out.below (Nat.le_refl _) x.h).more x.h.size) (by rw [HE4.out]; simp [EC.isNil])
    have hkr : kindR e4 = k := by rw [HE4.out, HE3.out, HE1.out]; show (if k = 0 then 17 else k) = k; rw [if_neg (by omega)]
    rw [hkr, hki, HE4.out] at this
    exact this
  have M5 : Hid (∀ x : Later w9, Calls Tryd.prog 10 #[.int .i64 kd, .int .i64 16] x.w fun e w' => e = .returned (.int .i64 (i : Int)) ∧ x.w = w') := fun x => by
    have := place_any kd 16 x.w (by omega) (by omega)
    rw [HI.out] at this
    exact this
  have M6 : Hid (∀ x : Later w9, Calls Tryd.prog 8 #[] x.w fun e w' => e = .returned (.bool true) ∧ Below x.w.heap.size x.w w') := fun x => f2awake_any A x.w (hee x) (HY.out.to (HB9.out.trans (x.h.mono HB9.out.size)) (HB9.out.trans (x.h.mono HB9.out.size)).size)
  have mW := Tryd.errW
  have hv4 : e4.val A = .iface 48 (.pointer (some ⟨n4, 0, none⟩)) := by rw [HE4.out]; rfl
  rw [hv4]
  clear hee hki hm hv4 hk1 hk2 d1 c0 HE1 HE3 HE4 HA2 HA3 HA4 HA5 HA7 HA9 HB1 HB2 HB3 HB4 HB5 HB7 HB8 HK9 HF3 HT9 HH9
  refine wp_region_later_lit (by kernel_rfl) (by kernel_rfl) ?_
  repeat (any_goals (go_big_quiet_step (first | with_reducible exact later_call (M1.out _) | with_reducible exact later_same (M2.out _) | with_reducible exact later_same (M3.out _) | with_reducible exact later_call (M4.out _) | with_reducible exact later_same (M5.out _) | with_reducible exact later_call (M6.out _))))
  refine wpQuiet_nil ?_
  intro _ hw'
  obtain ⟨x, hw''⟩ := hw'
  subst hw''
  go_wp2_with fail
  go_ret
  exact ⟨rfl, HB9.out.trans (x.h.mono HB9.out.size)⟩
end Go.Proofs.YtplegaadljbhoaaDoor
