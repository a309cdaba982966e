/- tableauref04.Put. No condition but that there are not too many arguments. -/
import Derived.Test.YtihbgkighckiiaaDoorWPut
import Derived.Test.YtihbgkighckiiaaDoorRel
namespace Go.Proofs.YtihbgkighckiiaaDoor
open Go.RowKit
set_option maxRecDepth 100000

def RPutPost (o p : Int) (l : List ArgD) (sig : ByteArray) (w : World) (e : Ending) (w' : World) : Prop :=
  ∃ v, e = .returned (.tuple #[v, .int .i64 (putE o p l sig)]) ∧ Sl w' w'.heap.size v (bv (putR o p l sig)) ∧ Below w.heap.size w w'
theorem rput_err {o p : Int} {l : List ArgD} {sig : ByteArray} {w w' : World} {k : Nat} (h : putE o p l sig = k) (hk : k ≠ 0) (hb : Below w.heap.size w w') :
    RPutPost o p l sig w (.returned (.tuple #[.slice none 0 0, .int .i64 k])) w' := by
  refine ⟨_, by rw [h], ?_, hb⟩
  unfold putR; rw [h, if_neg hk]; exact Sl.nil_ _ _
section
variable {w0 w w' : World} {g : Nat} {o p : Int} {va v v2 : Value} {bs X : List UInt8}
theorem blk_sl4 {w : World} {gx : Nat} {x : Int} (h : Blk w gx 5 (bv (le4 x)).toArray) : Sl w w.heap.size (.slice (some ⟨gx, 0, none⟩) 4 4) (bv (le4 x)) :=
  ⟨rfl, _, _, rfl, Nat.le_refl _, by unfold maxLen; omega, (fun h => by cases h), fun _ => ⟨gx, 0, rfl, h.lt, fun j u hu => by rw [h.cell]; simpa using hu⟩⟩
def RwC (w0 : World) (g : Nat) (o p : Int) (va v : Value) (bs : List UInt8) (w : World) : Prop := JP w0 g o p va v bs w
def RwR (w0 : World) (g q : Nat) (o p : Int) (i : Nat) (v : Value) (w : World) : Prop :=
  match i with
  | 0 => v = .pointer (some ⟨g, 0, none⟩)
  | 1 => v = .int .i64 o
  | 2 => v = .int .u32 o
  | 3 => (∃ A, v = .slice A 4 4) ∧ Sl w w.heap.size v (bv (le4 o))
  | 4 => v = .int .i64 ((q : Int) + 8)
  | 5 => v = .int .u32 ((q : Int) + 8)
  | 6 => v = .int .u32 (((q : Int) + 8) * 65536)
  | 7 => v = .pointer (some ⟨g, 1, none⟩)
  | 8 => v = .int .i64 p
  | 9 => v = .int .u32 p
  | 10 => v = .int .u32 (((q : Int) + 8) * 65536 + p)
  | 11 => Sl w w.heap.size v (bv (le4 (((q : Int) + 8) * 65536 + p)))
  | 12 => w.ownsRow w0.heap.size 5 1 v 8 (bv (le4 o ++ le4 (((q : Int) + 8) * 65536 + p)))
  | _ => w.ownsRow w0.heap.size 5 1 v 8 (bv (le4 o ++ le4 (((q : Int) + 8) * 65536 + p)))
theorem rw_keep {q : Nat} (hb : Below w.heap.size w w') (j : Nat) (u : Value) (h : RwR w0 g q o p j u w) : RwR w0 g q o p j u w' := by
  have ho : ∀ {n : Nat} {xs : List Value}, w.ownsRow w0.heap.size 5 1 u n xs → w'.ownsRow w0.heap.size 5 1 u n xs := fun h => h.kept (only_of_below hb none) (Classical.em _)
  have hs : ∀ {xs : List Value}, Sl w w.heap.size u xs → Sl w' w'.heap.size u xs := fun h => (h.below hb).more hb.size
  unfold RwR at h ⊢
  split at h <;> first | exact h | exact hs h | exact ho h | exact ⟨h.1, hs h.2⟩
theorem rw_app {v1 v2 : Value} {x y : Int} (ty : TypeId) (hj : JP w0 g o p va v bs w) (h1 : Sl w w.heap.size v1 (bv (le4 x))) (h2 : Sl w w.heap.size v2 (bv (le4 y))) (hf : ∃ A, v1 = .slice A 4 4) :
    ∃ v' w', (Builtin.append_ #[30, 30] ty #[v1, v2]).run Tryd.prog w = .ok v' w' ∧ w'.ownsRow w0.heap.size 5 1 v' 8 (bv (le4 x ++ le4 y)) ∧ Below w.heap.size w w' := by
  obtain ⟨i8, hi8, hz8, hs18, hby8⟩ := info_parts Tryd.infoU8
  obtain ⟨A1, rfl⟩ := hf
  have k2 := h2
  obtain ⟨_, A2, c2, rfl, _⟩ := h2
  unfold Sl at h1 k2
  obtain ⟨v', w', hr, h3, h4⟩ := run_app_full (ty := ty) Tryd.underlying30 hi8 hz8 hs18 rfl h1 k2 (by rw [bv_length, le4_length]; omega) ⟨by rw [bv_length, le4_length]; omega, .inr hby8⟩
  refine ⟨v', w', hr, ?_, h4⟩
  rw [bv_append]
  exact own_mono h3 hj.2.2.size
end

theorem own_below {w w' : World} {B n s : Nat} {e : TypeId} {v : Value} {xs : List Value} (h : w.ownsRow B e s v n xs) (hb : Below w.heap.size w w') : w'.ownsRow B e s v n xs :=
  h.kept (only_of_below hb none) (Classical.em _)
theorem encB_len_le (l : List UInt8) (h : l.length ≤ 201) : (encB l).length ≤ 300 := by rw [encB_length]; have := fillN_lt l.length; omega
theorem str_len (s : ByteArray) : s.data.toList.length = s.size := by rw [Array.length_toList]; rfl
def RPutLoop (w : World) (B g : Nat) (o p : Int) (va : Value) (l : List ArgD) (v i : Value) (wr : World) : Prop :=
  ∃ k : Nat, k ≤ l.length ∧ i = .int .i64 k ∧ wr.ownsRow B 5 1 v (bodyB (l.take k)).length (bv (bodyB (l.take k))) ∧ Blk wr g 29 #[.int .i64 o, .int .i64 p, va] ∧ Below w.heap.size w wr ∧ B ≤ wr.heap.size

set_option maxHeartbeats 6400000 in
theorem rwput_any (o p : Int) (v : Value) (l : List ArgD) (sig : ByteArray) (w : World) (hv : ArgsIs w v l) (hF : Fit l) (hs : sig.size ≤ 140737488351232) (hl : l.length ≤ 100) :
    Calls Tryd.prog 24 #[.agg #[.int .i64 o, .int .i64 p, v], .string sig] w (RPutPost o p l sig w) := by
  have HF := Lib.hid hF
  have HV := Lib.hid hv
  obtain ⟨_, Ad, c, rfl, hc, hm, _, hx⟩ := hv
  obtain ⟨n, hn⟩ : ∃ n, n = l.length := ⟨_, rfl⟩
  rw [← hn] at hc hx hl HV ⊢
  have HX := Lib.hid hx
  have HN := Lib.hid hn
  unfold maxLen at hm
  have hz1 : Below w.heap.size w (w.alloc (.cells #[.int .i64 o, .int .i64 p, .slice Ad n c] 29)) := (Below.refl _ _).alloc (Nat.le_refl _) _
  have hblk0 : Hid (Blk (w.alloc (.cells #[.int .i64 o, .int .i64 p, .slice Ad n c] 29)) w.heap.size 29 #[.int .i64 o, .int .i64 p, .slice Ad n c]) := Blk.new _ _ _
  have HZ := Lib.hid hz1
  obtain ⟨g, hg⟩ : ∃ g, g = w.heap.size := ⟨_, rfl⟩
  rw [← hg] at hblk0
  have HG := Lib.hid hg
  have hgw : w.heap.size ≤ g := by omega
  obtain ⟨B, hBd⟩ : ∃ B, B = g + 1 := ⟨_, rfl⟩
  have hBg : g < B := by omega
  have hBw : w.heap.size ≤ B := by omega
  have HBZ : Hid (B ≤ (w.alloc (.cells #[.int .i64 o, .int .i64 p, .slice Ad n c] 29)).heap.size) := by show _ ≤ _; simp; omega
  clear hBd
  clear hg hn hx hz1
  cases hcb : checkB o p l sig with
  | false =>
    have hce : checkE o p l sig = 1 := by unfold checkE; rw [hcb]; rfl
    have hpe : Hid (putE o p l sig = 1) := by show _ = _; unfold putE; rw [hcb]; rfl
    have HCE := Lib.hid hce
    clear hcb hce
    go_enter Tryd.func24, Tryd.ntmps24
    go_wp2_with fail
    refine (rcheck_any o p _ l sig _ (HV.out.below HZ.out) HF.out hs).mono ?_
    rintro e w1 ⟨rfl, hb1⟩
    rw [HCE.out]
    have HB1 := Lib.hid (HZ.out.trans (hb1.mono HZ.out.size))
    clear hb1
    go_wp2
    go_ret2
    exact rput_err (k := 1) hpe.out (by omega) HB1.out
  | true =>
    have hce : checkE o p l sig = 0 := by unfold checkE; rw [hcb]; rfl
    have hall := okArgs_at l sig.data.toList (by unfold checkB at hcb; simp only [Bool.and_eq_true] at hcb; exact hcb.2)
    have hop : 1 ≤ o ∧ o ≤ 4294967295 ∧ 0 ≤ p ∧ p < 65536 := by unfold checkB headOk at hcb; simp at hcb; omega
    have hpe : putE o p l sig = if 4096 < (bodyB l).length + 8 then 4 else 0 := by unfold putE; rw [hcb]; rfl
    have HCE := Lib.hid hce
    have HALL := Lib.hid hall
    have HPE := Lib.hid hpe
    have HBL := Lib.hid (bodyB_le l hall)
    obtain ⟨o1, o2, p1, p2⟩ := hop
    clear hcb hce hall hpe
    go_enter Tryd.func24, Tryd.ntmps24
    go_wp2_with fail
    rw [← HG.out]
    have HA1 := Lib.hid (HV.out.below HZ.out)
    generalize (w.alloc (.cells #[.int .i64 o, .int .i64 p, .slice Ad n c] 29)) = w0 at hblk0 HZ HA1 HBZ ⊢
    refine (rcheck_any o p _ l sig w0 HA1.out HF.out hs).mono ?_
    rintro e w1 ⟨rfl, hb1⟩
    rw [HCE.out]
    have HB1 := Lib.hid (HZ.out.trans (hb1.mono HZ.out.size))
    have HBK := Lib.hid (hblk0.out.below hb1 hblk0.out.lt)
    have HBZ1 : Hid (B ≤ w1.heap.size) := Nat.le_trans HBZ.out hb1.size
    clear hb1
    go_wp2_with fail
    go_loopw [7, 8] (RPutLoop w B g o p (.slice Ad n c) l) (fun _ a _ => n - (intOf a).toNat)
    case atStart => exact ⟨0, Nat.zero_le _, rfl, World.ownsRow_nil _ _ _ _, HBK.out, HB1.out, HBZ1.out⟩
    case round =>
      obtain ⟨i, hi, rfl, hown, hbk, hb, hbz⟩ := hrel
      have hin : i ≤ n := by rw [HN.out]; exact hi
      have HB := Lib.hid hb
      have HK := Lib.hid hbk
      have HO := Lib.hid hown
      have hbl := HBL.out i hi
      have HBZ2 := Lib.hid hbz
      clear hb hbk hown hi hbz
      by_cases hlt : i < n
      · have hil : i < l.length := by rw [← HN.out]; exact hlt
        obtain ⟨b, off, rfl, hB, hx⟩ := HX.out (by omega)
        obtain ⟨t0, t1, t2⟩ := argCells_at l i hil
        have hsn := bodyB_snoc l i hil
        have hbd := such_bounds (HALL.out i hil)
        obtain ⟨k, hk⟩ : ∃ k, k = l[i].1 := ⟨_, rfl⟩
        obtain ⟨z, hz⟩ : ∃ k, k = l[i].2.1 := ⟨_, rfl⟩
        obtain ⟨s, hs2⟩ : ∃ k, k = l[i].2.2 := ⟨_, rfl⟩
        have harg : argB l[i] = if k = 115 then encB (s.data.toList ++ [0]) else if k = 97 then encB s.data.toList else le4 (z % 4294967296) := by unfold argB; rw [← hk, ← hz, ← hs2]
        rw [← hk] at t0 hbd
        rw [← hz] at t1 hbd
        rw [← hs2] at t2 hbd
        rw [harg] at hsn
        have g0 : wr.cell? ⟨b, off + i * 3, none⟩ = some (.int .u8 k) := (HB.out.cell (p := ⟨b, off + i * 3, none⟩) hB).trans (hx _ _ t0)
        have g1 : wr.cell? ⟨b, off + i * 3 + 1, none⟩ = some (.int .i64 z) := (HB.out.cell (p := ⟨b, off + i * 3 + 1, none⟩) hB).trans (hx _ _ t1)
        have g2 : wr.cell? ⟨b, off + i * 3 + 2, none⟩ = some (.string s) := (HB.out.cell (p := ⟨b, off + i * 3 + 2, none⟩) hB).trans (hx _ _ t2)
        have HSN := Lib.hid hsn
        have HBD := Lib.hid hbd
        clear t0 t1 t2 hx hk hz hs2 hsn hbd harg
        have gc2 : wr.cell? ⟨g, 2, none⟩ = some (.slice (some ⟨b, off, none⟩) n c) := HK.out.cell 2
        obtain ⟨i8, hi8, hz8, hs18, hby8⟩ := info_parts Tryd.infoU8
        obtain ⟨q, hq⟩ : ∃ q, q = (bodyB (l.take i)).length := ⟨_, rfl⟩
        have HO2 := HO
        rw [← hq] at HO2 hbl
        have HQ := Lib.hid hq
        clear hq
        by_cases h115 : k = 115
        · subst h115
          have hz2 := (HBD.out).1 (.inl rfl)
          have hsn := HSN.out
          rw [if_pos rfl] at hsn
          have HSN2 := Lib.hid hsn
          clear hsn
          go_wp2_with fail
          refine (rputText_any s wr (by omega)).mono ?_
          rintro e w3 ⟨v3, rfl, hown3, hb3⟩
          obtain ⟨A5, c5, rfl, _, hcm5⟩ := own_form hown3
          unfold maxLen at hcm5
          have HS3 := Lib.hid (SlN.of_own hown3)
          clear hown3
          have HO3 := Lib.hid (own_below HO2.out hb3)
          have HK3 := Lib.hid (HK.out.below hb3 HK.out.lt)
          have HB3 := Lib.hid (HB.out.trans (hb3.mono HB.out.size))
          have HZ3 : Hid (B ≤ w3.heap.size) := Nat.le_trans HBZ2.out hb3.size
          have hel : (encB (s.data.toList ++ [0])).length ≤ 300 := encB_len_le _ (by rw [List.length_append, str_len, List.length_singleton]; omega)
          clear hb3
          go_wp2_with (
            at_builtin
            refine wpList_app rfl _ _ _ _ rfl _ _ rfl rfl (fun v' w' => Hid (w'.ownsRow B 5 1 v' (q + (encB (s.data.toList ++ [0])).length) (bv (bodyB (l.take i)) ++ bv (encB (s.data.toList ++ [0]))) ∧ Below B w3 w')) ?hrun1 ?_
            case hrun1 =>
              obtain ⟨v', w', hr, h2, h3⟩ := run_app_own (ty := 30) Tryd.underlying30 hi8 hz8 hs18 rfl HO3.out HS3.out (bv_one _) HZ3.out ⟨by omega, .inr hby8⟩
              exact ⟨v', w', hr, h2, h3⟩
            intro v4 w4 hR4)
          have HK4 := Lib.hid (HK3.out.below hR4.out.2 hBg)
          have HB4 := Lib.hid (HB3.out.trans (hR4.out.2.mono hBw))
          have HZ4 : Hid (B ≤ w4.heap.size) := Nat.le_trans HZ3.out hR4.out.2.size
          go_roundw
          case rel => exact ⟨i + 1, by rw [← HN.out]; omega, by go_num, by rw [HSN2.out, List.length_append, bv_append, ← HQ.out]; exact hR4.out.1, HK4.out, HB4.out, HZ4.out⟩
          case measure => simp [intOf]; omega
        · by_cases h97 : k = 97
          · subst h97
            have hz2 := (HBD.out).1 (.inr rfl)
            have hsn := HSN.out
            rw [if_neg h115, if_pos rfl] at hsn
            have HSN2 := Lib.hid hsn
            clear hsn h115
            go_wp2_with fail
            refine (rputList_any s wr (by omega)).mono ?_
            rintro e w3 ⟨v3, rfl, hown3, hb3⟩
            obtain ⟨A5, c5, rfl, _, hcm5⟩ := own_form hown3
            unfold maxLen at hcm5
            have HS3 := Lib.hid (SlN.of_own hown3)
            clear hown3
            have HO3 := Lib.hid (own_below HO2.out hb3)
            have HK3 := Lib.hid (HK.out.below hb3 HK.out.lt)
            have HB3 := Lib.hid (HB.out.trans (hb3.mono HB.out.size))
            have HZ3 : Hid (B ≤ w3.heap.size) := Nat.le_trans HBZ2.out hb3.size
            have hel : (encB s.data.toList).length ≤ 300 := encB_len_le _ (by rw [str_len]; omega)
            clear hb3
            go_wp2_with (
              at_builtin
              refine wpList_app rfl _ _ _ _ rfl _ _ rfl rfl (fun v' w' => Hid (w'.ownsRow B 5 1 v' (q + (encB s.data.toList).length) (bv (bodyB (l.take i)) ++ bv (encB s.data.toList)) ∧ Below B w3 w')) ?hrun2 ?_
              case hrun2 =>
                obtain ⟨v', w', hr, h2, h3⟩ := run_app_own (ty := 30) Tryd.underlying30 hi8 hz8 hs18 rfl HO3.out HS3.out (bv_one _) HZ3.out ⟨by omega, .inr hby8⟩
                exact ⟨v', w', hr, h2, h3⟩
              intro v4 w4 hR4)
            have HK4 := Lib.hid (HK3.out.below hR4.out.2 hBg)
            have HB4 := Lib.hid (HB3.out.trans (hR4.out.2.mono hBw))
            have HZ4 : Hid (B ≤ w4.heap.size) := Nat.le_trans HZ3.out hR4.out.2.size
            go_roundw
            case rel => exact ⟨i + 1, by rw [← HN.out]; omega, by go_num, by rw [HSN2.out, List.length_append, bv_append, ← HQ.out]; exact hR4.out.1, HK4.out, HB4.out, HZ4.out⟩
            case measure => simp [intOf]; omega
          · have d1 : (k == 115) = false := by simpa using h115
            have d2 : (k == 97) = false := by simpa using h97
            obtain ⟨z1, z2⟩ := (HBD.out).2 h115 h97
            have hsn := HSN.out
            rw [if_neg h115, if_neg h97] at hsn
            have HSN2 := Lib.hid hsn
            clear hsn h115 h97
            go_wp2_with fail
            refine (rput_any (z % 4294967296) wr (by omega) (by omega)).mono ?_
            rintro e w3 ⟨rfl, hblk3, hb3⟩
            have HS3 : Hid (SlN w3 w3.heap.size 1 (.slice (some ⟨wr.heap.size, 0, none⟩) 4 4) (le4 (z % 4294967296)).length (bv (le4 (z % 4294967296)))) := blk_sl4 hblk3
            clear hblk3
            have HO3 := Lib.hid (own_below HO2.out hb3)
            have HK3 := Lib.hid (HK.out.below hb3 HK.out.lt)
            have HB3 := Lib.hid (HB.out.trans (hb3.mono HB.out.size))
            have HZ3 : Hid (B ≤ w3.heap.size) := Nat.le_trans HBZ2.out hb3.size
            have hel : (le4 (z % 4294967296)).length ≤ 300 := by rw [le4_length]; omega
            clear hb3
            go_wp2_with (
              at_builtin
              refine wpList_app rfl _ _ _ _ rfl _ _ rfl rfl (fun v' w' => Hid (w'.ownsRow B 5 1 v' (q + (le4 (z % 4294967296)).length) (bv (bodyB (l.take i)) ++ bv (le4 (z % 4294967296))) ∧ Below B w3 w')) ?hrun3 ?_
              case hrun3 =>
                obtain ⟨v', w', hr, h2, h3⟩ := run_app_own (ty := 30) Tryd.underlying30 hi8 hz8 hs18 rfl HO3.out HS3.out (bv_one _) HZ3.out ⟨by omega, .inr hby8⟩
                exact ⟨v', w', hr, h2, h3⟩
              intro v4 w4 hR4)
            have HK4 := Lib.hid (HK3.out.below hR4.out.2 hBg)
            have HB4 := Lib.hid (HB3.out.trans (hR4.out.2.mono hBw))
            have HZ4 : Hid (B ≤ w4.heap.size) := Nat.le_trans HZ3.out hR4.out.2.size
            go_roundw
            case rel => exact ⟨i + 1, by rw [← HN.out]; omega, by go_num, by rw [HSN2.out, List.length_append, bv_append, ← HQ.out]; exact hR4.out.1, HK4.out, HB4.out, HZ4.out⟩
            case measure => simp [intOf]; omega
      · obtain rfl : i = n := by omega
        have htk : l.take i = l := List.take_of_length_le (by rw [← HN.out]; exact Nat.le_refl _)
        rw [htk] at HO hbl
        obtain ⟨q, hq⟩ : ∃ q, q = (bodyB l).length := ⟨_, rfl⟩
        have hown := HO.out
        rw [← hq] at hown hbl
        obtain ⟨A3, c3, rfl, hc3, hcm3⟩ := own_form hown
        unfold maxLen at hcm3
        have hpe := HPE.out
        rw [← hq] at hpe
        have HOW : Hid (wr.ownsRow B 5 1 (.slice A3 q c3) q (bv (bodyB l))) := hown
        have HJ : Hid (JP w g o p (.slice Ad i c) (.slice A3 q c3) (bodyB l) wr) := ⟨by have := Sl.of_own hown; exact this, HK.out, HB.out⟩
        have HQ := Lib.hid hq
        have gc2 : wr.cell? ⟨g, 2, none⟩ = some (.slice Ad i c) := HK.out.cell 2
        clear htk hq hown HO HALL HPE HBL
        by_cases hbig : 4096 < q + 8
        · have d1 : decide (4096 < (q : Int) + 8) = true := by simp; omega
          rw [if_pos hbig] at hpe
          have HPE2 := Lib.hid hpe
          clear hpe hbig
          go_wp2_with fail
          go_ret2
          exact rput_err (k := 4) HPE2.out (by omega) HB.out
        · have d1 : decide (4096 < (q : Int) + 8) = false := by simp; omega
          rw [if_neg hbig] at hpe
          have HPE2 := Lib.hid hpe
          have HJ1 := JP.drew HJ
          have gc0 : wr.cell? ⟨g, 0, none⟩ = some (.int .i64 o) := HK.out.cell 0
          have gc1 : wr.cell? ⟨g, 1, none⟩ = some (.int .i64 p) := HK.out.cell 1
          have hq8 : q + 8 ≤ 4096 := by omega
          clear hpe hbig hbl hin
          have w1' : IntKind.u32.wrap o = o := IntWalk.u32_in _ (by omega)
          have w2' : IntKind.u32.wrap ((q : Int) + 8) = (q : Int) + 8 := IntWalk.u32_in _ (by omega)
          have w3' : IntKind.u32.wrap (((q : Int) + 8) * 65536) = ((q : Int) + 8) * 65536 := IntWalk.u32_in _ (by omega)
          have w4' : IntKind.u32.wrap p = p := IntWalk.u32_in _ (by omega)
          have w5' : IntKind.u32.wrap (((q : Int) + 8) * 65536 + p) = ((q : Int) + 8) * 65536 + p := IntWalk.u32_in _ (by omega)
          go_upto_region 17 with (fail)
          go_cut [10] from 67 to 79 (fun s10 w' => Hid (w'.ownsRow w.heap.size 5 1 s10 8 (bv (le4 o ++ le4 (((q : Int) + 8) * 65536 + p))) ∧ JP w g o p (.slice Ad i c) (.slice A3 q c3) (bodyB l) w'))
          case first =>
            have hfn : ∀ args w, (callFunc 16 args).run Tryd.prog w = .ok (.enter 16 args) w := fun args w => by kernel_rfl
            refine wp_region_rel (RwC w g o p (.slice Ad i c) (.slice A3 q c3) (bodyB l)) (RwR w g q o p) (by kernel_rfl) (by kernel_rfl) (by kernel_rfl) HJ1.out ?_ ?_
            · refine allSteps_cons ?_ (allSteps_cons ?_ (allSteps_cons ?_ (allSteps_cons ?_ (allSteps_cons ?_ (allSteps_cons ?_ (allSteps_cons ?_ (allSteps_cons ?_ (allSteps_cons ?_ (allSteps_cons ?_ (allSteps_cons ?_ (allSteps_cons ?_ (allSteps_cons ?_ (allSteps_cons ?_ (allSteps_nil))))))))))))))
              · intro a wx hC hE hD
                have e : a.eval (.tmp 2) = .pointer (some ⟨g, 0, none⟩) := hE 2 (by kernel_rfl)
                refine rel_value (v := .pointer (some ⟨g, 0, none⟩)) rfl rfl ?_ hC rfl (fun _ _ h => h)
                generalize a.eval = ρ at e ⊢
                simp [execOp, go_sem, e]
              · intro a wx hC hE hD
                obtain ⟨v0, e, hR0⟩ := rel_dep (d := 67) rfl (hD 0 _ rfl (by kernel_rfl))
                have hR0' : v0 = .pointer (some ⟨g, 0, none⟩) := hR0
                subst hR0'
                clear hR0
                have hc : wx.cell? ⟨g, 0, none⟩ = some (.int .i64 o) := hC.2.1.cell 0
                refine rel_value (v := .int .i64 o) rfl rfl ?_ hC rfl (fun _ _ h => h)
                generalize a.eval = ρ at e ⊢
                simp [execOp, go_sem, e, hc]
              · intro a wx hC hE hD
                obtain ⟨v1, e, hR1⟩ := rel_dep (d := 68) rfl (hD 1 _ rfl (by kernel_rfl))
                have hR1' : v1 = .int .i64 o := hR1
                subst hR1'
                clear hR1
                refine rel_value (v := .int .u32 o) rfl rfl ?_ hC rfl (fun _ _ h => h)
                generalize a.eval = ρ at e ⊢
                simp [execOp, go_sem, e, w1']
              · intro a wx hC hE hD
                obtain ⟨v2, e, hR2⟩ := rel_dep (d := 69) rfl (hD 2 _ rfl (by kernel_rfl))
                have hR2' : v2 = .int .u32 o := hR2
                subst hR2'
                clear hR2
                refine rel_call rfl rfl (exec_call1 rfl e hfn) ((rput_any o wx (by omega) (by omega)).mono ?_)
                rintro e2 w2 ⟨rfl, hb8, hb2⟩
                exact ⟨_, rfl, JP.below hC hb2, ⟨⟨_, rfl⟩, blk_sl4 hb8⟩, rw_keep hb2⟩
              · intro a wx hC hE hD
                have e : a.eval (.tmp 9) = .int .i64 ((q : Int) + 8) := hE 9 (by kernel_rfl)
                refine rel_value (v := .int .i64 ((q : Int) + 8)) rfl rfl ?_ hC rfl (fun _ _ h => h)
                generalize a.eval = ρ at e ⊢
                simp [execOp, go_sem, e]
              · intro a wx hC hE hD
                obtain ⟨v4, e, hR4⟩ := rel_dep (d := 71) rfl (hD 4 _ rfl (by kernel_rfl))
                have hR4' : v4 = .int .i64 ((q : Int) + 8) := hR4
                subst hR4'
                clear hR4
                refine rel_value (v := .int .u32 ((q : Int) + 8)) rfl rfl ?_ hC rfl (fun _ _ h => h)
                generalize a.eval = ρ at e ⊢
                simp [execOp, go_sem, e, w2']
              · intro a wx hC hE hD
                obtain ⟨v5, e, hR5⟩ := rel_dep (d := 72) rfl (hD 5 _ rfl (by kernel_rfl))
                have hR5' : v5 = .int .u32 ((q : Int) + 8) := hR5
                subst hR5'
                clear hR5
                have e16 : a.eval (.const (.int .u64 16)) = .int .u64 16 := rfl
                refine rel_value (v := .int .u32 (((q : Int) + 8) * 65536)) rfl rfl ?_ hC rfl (fun _ _ h => h)
                generalize a.eval = ρ at e e16 ⊢
                simp [execOp, go_sem, e, e16, w3']
              · intro a wx hC hE hD
                have e : a.eval (.tmp 2) = .pointer (some ⟨g, 0, none⟩) := hE 2 (by kernel_rfl)
                refine rel_value (v := .pointer (some ⟨g, 1, none⟩)) rfl rfl ?_ hC rfl (fun _ _ h => h)
                generalize a.eval = ρ at e ⊢
                simp [execOp, go_sem, e]
              · intro a wx hC hE hD
                obtain ⟨v7, e, hR7⟩ := rel_dep (d := 74) rfl (hD 7 _ rfl (by kernel_rfl))
                have hR7' : v7 = .pointer (some ⟨g, 1, none⟩) := hR7
                subst hR7'
                clear hR7
                have hc : wx.cell? ⟨g, 1, none⟩ = some (.int .i64 p) := hC.2.1.cell 1
                refine rel_value (v := .int .i64 p) rfl rfl ?_ hC rfl (fun _ _ h => h)
                generalize a.eval = ρ at e ⊢
                simp [execOp, go_sem, e, hc]
              · intro a wx hC hE hD
                obtain ⟨v8, e, hR8⟩ := rel_dep (d := 75) rfl (hD 8 _ rfl (by kernel_rfl))
                have hR8' : v8 = .int .i64 p := hR8
                subst hR8'
                clear hR8
                refine rel_value (v := .int .u32 p) rfl rfl ?_ hC rfl (fun _ _ h => h)
                generalize a.eval = ρ at e ⊢
                simp [execOp, go_sem, e, w4']
              · intro a wx hC hE hD
                obtain ⟨v6, e, hR6⟩ := rel_dep (d := 73) rfl (hD 6 _ rfl (by kernel_rfl))
                have hR6' : v6 = .int .u32 (((q : Int) + 8) * 65536) := hR6
                subst hR6'
                clear hR6
                obtain ⟨v9, e2, hR9⟩ := rel_dep (d := 76) rfl (hD 9 _ rfl (by kernel_rfl))
                have hR9' : v9 = .int .u32 p := hR9
                subst hR9'
                clear hR9
                refine rel_value (v := .int .u32 (((q : Int) + 8) * 65536 + p)) rfl rfl ?_ hC rfl (fun _ _ h => h)
                generalize a.eval = ρ at e e2 ⊢
                simp [execOp, go_sem, e, e2, w5']
              · intro a wx hC hE hD
                obtain ⟨v10, e, hR10⟩ := rel_dep (d := 77) rfl (hD 10 _ rfl (by kernel_rfl))
                have hR10' : v10 = .int .u32 (((q : Int) + 8) * 65536 + p) := hR10
                subst hR10'
                clear hR10
                refine rel_call rfl rfl (exec_call1 rfl e hfn) ((rput_any (((q : Int) + 8) * 65536 + p) wx (by omega) (by omega)).mono ?_)
                rintro e2 w2 ⟨rfl, hb8, hb2⟩
                exact ⟨_, rfl, JP.below hC hb2, blk_sl4 hb8, rw_keep hb2⟩
              · intro a wx hC hE hD
                obtain ⟨v3, e3, hR3⟩ := rel_dep (d := 70) rfl (hD 3 _ rfl (by kernel_rfl))
                obtain ⟨v11, e11, hR11⟩ := rel_dep (d := 78) rfl (hD 11 _ rfl (by kernel_rfl))
                have hR3' : (∃ A, v3 = .slice A 4 4) ∧ Sl wx wx.heap.size v3 (bv (le4 o)) := hR3
                have hR11' : Sl wx wx.heap.size v11 (bv (le4 (((q : Int) + 8) * 65536 + p))) := hR11
                obtain ⟨v', w', hr, h3, h4⟩ := rw_app _ hC hR3'.2 hR11' hR3'.1
                exact rel_value rfl rfl (exec_app rfl e3 e11 hr) (JP.below hC h4) h3 (rw_keep h4)
              · intro a wx hC hE hD
                obtain ⟨v12, e12, hR12⟩ := rel_dep (d := 79) rfl (hD 12 _ rfl (by kernel_rfl))
                have hR12' : wx.ownsRow w.heap.size 5 1 v12 8 (bv (le4 o ++ le4 (((q : Int) + 8) * 65536 + p))) := hR12
                refine rel_value (v := v12) rfl rfl ?_ hC hR12' (fun _ _ h => h)
                generalize a.eval = ρ at e12 ⊢
                simp [execOp, go_sem, e12]
            · intro vs w' hC hV
              obtain ⟨_, _, _, _, _, _, _, _, _, _, _, _, _, h13, _⟩ := hV
              have h13' : w'.ownsRow w.heap.size 5 1 (vs 13) 8 (bv (le4 o ++ le4 (((q : Int) + 8) * 65536 + p))) := h13
              have hJP : JP w g o p (.slice Ad i c) (.slice A3 q c3) (bodyB l) w' := hC
              clear h13
              simp only [putAll, Act.put, List.setIfInBounds_toArray, List.set_cons_zero, List.set_cons_succ, Nat.zero_add, Nat.reduceAdd]
              generalize vs 13 = v13 at h13' ⊢
              go_wp2_with fail
              go_meet
              exact ⟨h13', hJP⟩
          case rest =>
            obtain ⟨hown8, hjp⟩ := hcut.out
            have HO8 := Lib.hid hown8
            have HJP := Lib.hid hjp
            obtain ⟨A8, c8, rfl, _, hcm8⟩ := own_form hown8
            unfold maxLen at hcm8
            clear hown8 hjp hcut
            go_wp2_with (
              at_builtin
              refine wpList_app rfl _ _ _ _ rfl _ _ rfl rfl _ (jp_app _ HJP HO8 (by rw [← HQ.out]; omega)) ?_
              intro v9 w9 hR9)
            go_ret2
            refine ⟨_, by rw [HPE2.out]; rfl, ?_, hR9.out.2⟩
            have e : putR o p l sig = le4 o ++ le4 (((q : Int) + 8) * 65536 + p) ++ bodyB l := by
              unfold putR putB
              rw [HPE2.out, if_pos rfl, ← HQ.out]
              rfl
            rw [e, bv_append]
            exact Sl.of_own hR9.out.1
end Go.Proofs.YtihbgkighckiiaaDoor
