/- The walk over tableaulaw04.WireLimits. (Printed by gen_limits.py.) -/
import Derived.Test.YtihbgkighckiiaaDoorLone
import Derived.Deep.RegionLaw
namespace Go.Proofs.YtihbgkighckiiaaDoor
open Go.RowKit
set_option maxRecDepth 100000

def longS : ByteArray := strB (List.replicate 200 0)
def longX : ByteArray := longS ++ ⟨#[120]⟩
theorem run_make_bytes (w : World) (n : Nat) (h : n ≤ 65536) : (Instr.makeSlice 30 (.int .i64 (n : Int)) (.int .i64 (n : Int))).run Tryd.prog w = .ok (.slice (some ⟨w.heap.size, 0, none⟩) n n) (w.alloc (.cells (bv (List.replicate n 0)).toArray 5)) := by
  obtain ⟨i, hi, hz, hs1, hby⟩ := info_parts Tryd.infoU8
  have := run_make (P := Tryd.prog) w 30 5 i (.int .u8 0) Tryd.underlying30 hi hz .i64 .i64 n n (by omega) (Int.le_refl _) (by rw [hby]; omega) (by omega)
  rw [this, hs1]
  have e : madeCells (Value.int .u8 0).cells ((n : Int).toNat * 1) = (bv (List.replicate n 0)).toArray := by
    apply Array.toList_inj.1
    rw [show (Value.int .u8 0).cells = #[.int .u8 0] from rfl, toList_madeCells_one]
    simp [bv]
  rw [e]; simp
theorem none_any (A : Nat → Addr) (S : List Nat) (h1 : 1 ∈ S) (o p : Int) (k : Nat) (hk : checkE o p [] ⟨#[]⟩ = k) (w : World) (hE : Errs w w.heap.size S A) :
    Calls Tryd.prog 14 #[.agg #[.int .i64 o, .int .i64 p, .slice none 0 0], .string ⟨#[]⟩] w fun e w' => e = .returned (errV A k) ∧ Below w.heap.size w w' := by
  subst hk
  exact check_any A S h1 o p _ [] ⟨#[]⟩ w hE (Sl.nil_ w _) (by intro x hx; cases hx) (by decide)

set_option maxHeartbeats 3200000 in
theorem wlimits_walk (A : Nat → Addr) (w : World) (hE : Errs w w.heap.size [1, 4] A) :
    Calls Tryd.prog 3 #[] w fun e w' => e = .returned (.bool true) ∧ Below w.heap.size w w' := by
  have HE := Lib.hid hE
  have H1 : (1 : Nat) ∈ [1, 4] := by decide
  have H4 : (4 : Nat) ∈ [1, 4] := by decide
  have hb0 : Below w.heap.size w (w.alloc (.cells (bv (List.replicate 200 0)).toArray 5)) := (Below.refl _ _).alloc (Nat.le_refl _) _
  have hcv := conv_str Tryd.underlying30 Tryd.underlying5 Tryd.underlying9 (lit_sl w 5 (List.replicate 200 0) 200 (by simp) (by omega))
  have hmk : (Instr.makeSlice 30 (.int .i64 200) (.int .i64 200)).run Tryd.prog w = _ := run_make_bytes w 200 (by omega)
  have HB0 := Lib.hid hb0
  have hl : longS.size = 200 := by decide +kernel
  have hx : longX.size = 201 := by decide +kernel
  have xL : longS ++ ⟨#[120]⟩ = longX := rfl
  have e97 : Hid (suchB 97 0 longS = true) := by show _ = _; decide +kernel
  have e97x : Hid (suchB 97 0 longX = false) := by show _ = _; decide +kernel
  have e115 : Hid (suchB 115 0 longS = false) := by show _ = _; decide +kernel
  rw [show strB (List.replicate 200 0) = longS from rfl] at hcv
  clear hE hb0
  generalize (w.alloc (.cells (bv (List.replicate 200 0)).toArray 5)) = w0 at hcv HB0 hmk
  generalize longX = LX at *
  generalize longS = L at *
  go_enter Tryd.func3, Tryd.ntmps3
  go_wp2_with fail
  refine (lone_any A _ H1 105 2147483647 ⟨#[]⟩ 105 rfl true (by decide +kernel) (by decide) _ (HE.out.to HB0.out HB0.out.size)).mono ?_
  rintro e w1 ⟨rfl, hb⟩
  have HB1 := Lib.hid (HB0.out.trans (hb.mono HB0.out.size))
  clear hb
  go_wp2_with fail
  refine (lone_any A _ H1 105 2147483648 ⟨#[]⟩ 105 rfl false (by decide +kernel) (by decide) _ (HE.out.to HB1.out HB1.out.size)).mono ?_
  rintro e w2 ⟨rfl, hb⟩
  have HB2 := Lib.hid (HB1.out.trans (hb.mono HB1.out.size))
  clear hb
  go_wp2_with fail
  refine (lone_any A _ H1 102 (-2147483648) ⟨#[]⟩ 102 rfl true (by decide +kernel) (by decide) _ (HE.out.to HB2.out HB2.out.size)).mono ?_
  rintro e w3 ⟨rfl, hb⟩
  have HB3 := Lib.hid (HB2.out.trans (hb.mono HB2.out.size))
  clear hb
  go_wp2_with fail
  refine (lone_any A _ H1 102 (-2147483649) ⟨#[]⟩ 102 rfl false (by decide +kernel) (by decide) _ (HE.out.to HB3.out HB3.out.size)).mono ?_
  rintro e w4 ⟨rfl, hb⟩
  have HB4 := Lib.hid (HB3.out.trans (hb.mono HB3.out.size))
  clear hb
  go_wp2_with fail
  refine (lone_any A _ H1 117 4294967295 ⟨#[]⟩ 117 rfl true (by decide +kernel) (by decide) _ (HE.out.to HB4.out HB4.out.size)).mono ?_
  rintro e w5 ⟨rfl, hb⟩
  have HB5 := Lib.hid (HB4.out.trans (hb.mono HB4.out.size))
  clear hb
  go_wp2_with fail
  refine (lone_any A _ H1 117 4294967296 ⟨#[]⟩ 117 rfl false (by decide +kernel) (by decide) _ (HE.out.to HB5.out HB5.out.size)).mono ?_
  rintro e w6 ⟨rfl, hb⟩
  have HB6 := Lib.hid (HB5.out.trans (hb.mono HB5.out.size))
  clear hb
  go_wp2_with fail
  refine (lone_any A _ H1 117 (-1) ⟨#[]⟩ 117 rfl false (by decide +kernel) (by decide) _ (HE.out.to HB6.out HB6.out.size)).mono ?_
  rintro e w7 ⟨rfl, hb⟩
  have HB7 := Lib.hid (HB6.out.trans (hb.mono HB6.out.size))
  clear hb
  go_wp2_with fail
  refine (lone_any A _ H1 111 0 ⟨#[]⟩ 111 rfl true (by decide +kernel) (by decide) _ (HE.out.to HB7.out HB7.out.size)).mono ?_
  rintro e w8 ⟨rfl, hb⟩
  have HB8 := Lib.hid (HB7.out.trans (hb.mono HB7.out.size))
  clear hb
  go_wp2_with fail
  refine (lone_any A _ H1 110 0 ⟨#[]⟩ 110 rfl false (by decide +kernel) (by decide) _ (HE.out.to HB8.out HB8.out.size)).mono ?_
  rintro e w9 ⟨rfl, hb⟩
  have HB9 := Lib.hid (HB8.out.trans (hb.mono HB8.out.size))
  clear hb
  go_wp2_with fail
  refine (lone_any A _ H1 110 1 ⟨#[]⟩ 110 rfl true (by decide +kernel) (by decide) _ (HE.out.to HB9.out HB9.out.size)).mono ?_
  rintro e w10 ⟨rfl, hb⟩
  have HB10 := Lib.hid (HB9.out.trans (hb.mono HB9.out.size))
  clear hb
  go_wp2_with fail
  refine (lone_any A _ H1 97 0 L 97 rfl true (e97.out) (by omega) _ (HE.out.to HB10.out HB10.out.size)).mono ?_
  rintro e w11 ⟨rfl, hb⟩
  have HB11 := Lib.hid (HB10.out.trans (hb.mono HB10.out.size))
  clear hb
  go_wp2_with fail
  refine (lone_any A _ H1 97 0 LX 97 rfl false (e97x.out) (by omega) _ (HE.out.to HB11.out HB11.out.size)).mono ?_
  rintro e w12 ⟨rfl, hb⟩
  have HB12 := Lib.hid (HB11.out.trans (hb.mono HB11.out.size))
  clear hb
  go_wp2_with fail
  refine (lone_any A _ H1 115 0 L 115 rfl false (e115.out) (by omega) _ (HE.out.to HB12.out HB12.out.size)).mono ?_
  rintro e w13 ⟨rfl, hb⟩
  have HB13 := Lib.hid (HB12.out.trans (hb.mono HB12.out.size))
  clear hb
  go_wp2_with fail
  refine (lone_any A _ H1 115 0 ⟨#[120]⟩ 115 rfl true (by decide +kernel) (by decide) _ (HE.out.to HB13.out HB13.out.size)).mono ?_
  rintro e w14 ⟨rfl, hb⟩
  have HB14 := Lib.hid (HB13.out.trans (hb.mono HB13.out.size))
  clear hb
  go_wp2_with fail
  refine (lone_any A _ H1 115 1 ⟨#[120]⟩ 115 rfl false (by decide +kernel) (by decide) _ (HE.out.to HB14.out HB14.out.size)).mono ?_
  rintro e w15 ⟨rfl, hb⟩
  have HB15 := Lib.hid (HB14.out.trans (hb.mono HB14.out.size))
  clear hb
  go_wp2_with fail
  refine (lone_any A _ H1 117 1 ⟨#[120]⟩ 117 rfl false (by decide +kernel) (by decide) _ (HE.out.to HB15.out HB15.out.size)).mono ?_
  rintro e w16 ⟨rfl, hb⟩
  have HB16 := Lib.hid (HB15.out.trans (hb.mono HB15.out.size))
  clear hb
  go_wp2_with fail
  refine (lone_any A _ H1 120 0 ⟨#[]⟩ 120 rfl false (by decide +kernel) (by decide) _ (HE.out.to HB16.out HB16.out.size)).mono ?_
  rintro e w17 ⟨rfl, hb⟩
  have HB17 := Lib.hid (HB16.out.trans (hb.mono HB16.out.size))
  clear hb
  go_wp2_with fail
  refine (none_any A _ H1 4294967295 65535 0 (by decide +kernel) _ (HE.out.to HB17.out HB17.out.size)).mono ?_
  rintro e w18 ⟨rfl, hb⟩
  have HB18 := Lib.hid (HB17.out.trans (hb.mono HB17.out.size))
  clear hb
  rw [errV_zero]
  go_wp2_with fail
  refine (none_any A _ H1 0 0 1 (by decide +kernel) _ (HE.out.to HB18.out HB18.out.size)).mono ?_
  rintro e w19 ⟨rfl, hb⟩
  have HB19 := Lib.hid (HB18.out.trans (hb.mono HB18.out.size))
  clear hb
  rw [errV_pos A (by omega)]
  go_wp2_with fail
  refine (none_any A _ H1 4294967296 0 1 (by decide +kernel) _ (HE.out.to HB19.out HB19.out.size)).mono ?_
  rintro e w20 ⟨rfl, hb⟩
  have HB20 := Lib.hid (HB19.out.trans (hb.mono HB19.out.size))
  clear hb
  rw [errV_pos A (by omega)]
  go_wp2_with fail
  refine (none_any A _ H1 1 65536 1 (by decide +kernel) _ (HE.out.to HB20.out HB20.out.size)).mono ?_
  rintro e w21 ⟨rfl, hb⟩
  have HB21 := Lib.hid (HB20.out.trans (hb.mono HB20.out.size))
  clear hb
  rw [errV_pos A (by omega)]
  go_wp2_with fail
  refine (w4awake_any A _ H1 H4 _ (HE.out.to HB21.out HB21.out.size)).mono ?_
  rintro e w22 ⟨rfl, hb⟩
  have HBL := Lib.hid (HB21.out.trans (hb.mono HB21.out.size))
  clear hb
  go_wp2
  go_ret
  exact ⟨rfl, HBL.out⟩
end Go.Proofs.YtihbgkighckiiaaDoor
