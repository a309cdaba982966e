/- The contracts of package word. No condition but that slices fit a machine's memory. -/
import Derived.Test.YtnaagmjjnapklaaDoorApp
import Derived.Test.YtnaagmjjnapklaaDoorChecked
import Derived.Deep.QuietTactic
import Derived.BigQuiet
import Derived.Outline
namespace Go.Proofs.YtnaagmjjnapklaaDoor
open Go.RowKit
set_option maxRecDepth 100000

/-- A number as four bytes, the least first. -/
def le4 (v : Int) : List UInt8 := [UInt8.ofNat (v % 256).toNat, UInt8.ofNat (v / 256 % 256).toNat, UInt8.ofNat (v / 65536 % 256).toNat, UInt8.ofNat (v / 16777216 % 256).toNat]
theorem le4_length (v : Int) : (le4 v).length = 4 := rfl
theorem byte_val (x : Int) (h0 : 0 ≤ x) (h1 : x < 256) : ((UInt8.ofNat x.toNat).toNat : Int) = x := by
  rw [UInt8.toNat_ofNat']
  omega
theorem bv_le4 (v : Int) (h0 : 0 ≤ v) (h1 : v < 4294967296) : bv (le4 v) = [.int .u8 (v % 256), .int .u8 (v / 256 % 256), .int .u8 (v / 65536 % 256), .int .u8 (v / 16777216)] := by
  simp only [bv, le4, List.map_cons, List.map_nil]
  rw [byte_val _ (by omega) (by omega), byte_val _ (by omega) (by omega), byte_val _ (by omega) (by omega), byte_val _ (by omega) (by omega)]
  rw [show v / 16777216 % 256 = v / 16777216 by omega]
theorem Tryd.infoU8 : (Tryd.prog.info? 5).map (fun i => (i.zero, i.size, i.bytes)) = some (some (.int .u8 0), 1, 1) := by kernel_rfl

/-- A literal's block reads as its cells. -/
theorem sl_lit (w : World) (e : TypeId) (cs : List Value) (n : Nat) (hn : cs.length = n) (hm : n ≤ maxLen) : SlN (w.alloc (.cells cs.toArray e)) (w.heap.size + 1) 1 (.slice (some ⟨w.heap.size, 0, none⟩) n n) n cs := by
  refine ⟨by omega, _, n, rfl, Nat.le_refl _, hm, (fun h => by cases h), fun _ => ⟨w.heap.size, 0, rfl, by omega, fun j u hu => ?_⟩⟩
  rw [Blk.cell (Blk.new w e cs.toArray) (0 + j)]
  simpa using hu

set_option maxHeartbeats 400000 in
theorem put_any (v : Value) (bs : List UInt8) (x : Int) (w : World) (h : Sl w w.heap.size v (bv bs)) (hn : bs.length ≤ 140737488400000) (h0 : 0 ≤ x) (h1 : x < 4294967296) :
    Calls Tryd.prog 8 #[v, .int .u32 x] w fun e w' => ∃ v', e = .returned v' ∧ w'.ownsRow w.heap.size 5 1 v' (bs.length + 4) (bv (bs ++ le4 x)) ∧ Below w.heap.size w w' := by
  obtain ⟨i, hi, hz, hs1, hby⟩ := info_parts Tryd.infoU8
  obtain ⟨_, A, c, hv, hc, hm, hA0, hx⟩ := h
  obtain ⟨n, hn'⟩ : ∃ n, n = (bv bs).length := ⟨_, rfl⟩
  rw [← hn'] at hv hc hx
  subst hv
  unfold maxLen at hm
  have hsl : Hid (SlN w w.heap.size 1 (.slice A n n) n (bv bs)) := ⟨by omega, A, n, rfl, Nat.le_refl _, by unfold maxLen; omega, fun h => by have := hA0 h; omega, hx⟩
  have hnb : Hid (n = bs.length) := by rw [hn', bv_length]; exact rfl
  have hle : n ≤ 140737488400000 := by rw [hn', bv_length]; exact hn
  clear hn' hn hx hA0
  go_enter Tryd.func8, Tryd.ntmps8
  go_wp2_with (
    at_builtin
    refine wpList_app rfl _ _ _ _ rfl _ _ rfl rfl (fun v' w' => w'.ownsRow w.heap.size 5 1 v' (n + 4) (bv bs ++ bv (le4 x)) ∧ Below w.heap.size w w') ?hrun ?_
    case hrun =>
      have hlit := sl_lit w 5 (bv (le4 x)) 4 (by rw [bv_length]; rfl) (by unfold maxLen; omega)
      rw [bv_le4 x h0 h1] at hlit ⊢
      have hd := (hsl.out.below ((Below.refl _ _).alloc (Nat.le_refl _) (.cells [Value.int .u8 (x % 256), .int .u8 (x / 256 % 256), .int .u8 (x / 65536 % 256), .int .u8 (x / 16777216)].toArray 5)))
      obtain ⟨v', w', hr, h2, h3⟩ := run_app_full (ty := 23) Tryd.underlying23 hi hz hs1 rfl hd hlit (by omega) ⟨by omega, .inr hby⟩
      exact ⟨v', w', hr, owns_base h2 (by simp), (((Below.refl w.heap.size w).alloc (Nat.le_refl _) _).trans (h3.mono (by simp)))⟩
    intro v' w' hR)
  go_ret
  exact ⟨_, rfl, by rw [bv_append, ← hnb.out]; exact hR.1, hR.2⟩

/-- How many bytes there are with the filling. -/
def fillN (n : Nat) : Nat := (n + 3) / 4 * 4
theorem fillN_ge (n : Nat) : n ≤ fillN n := by unfold fillN; omega
theorem fillN_lt (n : Nat) : fillN n < n + 4 := by unfold fillN; omega
theorem filled_any (n : Nat) (w : World) (hn : n ≤ 1152921504606846976) :
    Calls Tryd.prog 36 #[.int .i64 n] w fun e w' => e = .returned (.int .i64 (fillN n)) ∧ w = w' := by
  have hf : ((fillN n : Nat) : Int) = ((n : Int) + 4 - 1) / 4 * 4 := by unfold fillN; omega
  have H := Lib.hid hf
  clear hf
  go_enter Tryd.func36, Tryd.ntmps36
  go_wp2
  go_ret
  exact ⟨ret_int H.out.symm, rfl⟩

/-- A text's bytes as they are put: how many, these, and their filling. -/
def encB (l : List UInt8) : List UInt8 := le4 l.length ++ l ++ List.replicate (fillN l.length - l.length) 0
theorem encB_length (l : List UInt8) : (encB l).length = 4 + fillN l.length := by
  have := fillN_ge l.length
  simp [encB, le4_length]; omega
theorem replicate_snoc (k : Nat) : bv (List.replicate (k + 1) 0) = bv (List.replicate k 0) ++ [.int .u8 0] := by
  rw [List.replicate_succ', bv_append]; rfl

def PutRel (B n m : Nat) (xs : List UInt8) (w : World) (v i : Value) (wr : World) : Prop :=
  ∃ k : Nat, k ≤ m ∧ i = .int .i64 k ∧ wr.ownsRow B 5 1 v (n + k) (bv (xs ++ List.replicate k 0)) ∧ Below B w wr

set_option maxHeartbeats 800000 in
theorem puts_any (v : Value) (bs : List UInt8) (s : ByteArray) (w : World) (h : Sl w w.heap.size v (bv bs)) (hn : bs.length ≤ 140737488388000) (hs : s.size ≤ 65536) :
    Calls Tryd.prog 29 #[v, .string s] w fun e w' => ∃ v', e = .returned v' ∧ w'.ownsRow w.heap.size 5 1 v' (bs.length + (encB s.data.toList).length) (bv (bs ++ encB s.data.toList)) ∧ Below w.heap.size w w' := by
  obtain ⟨i, hi, hz, hs1, hby⟩ := info_parts Tryd.infoU8
  have hsl : s.data.toList.length = s.size := by rw [Array.length_toList]; rfl
  obtain ⟨m, hm⟩ : ∃ m, m = fillN s.size - s.size := ⟨_, rfl⟩
  have hm4 : m ≤ 4 := by have := fillN_lt s.size; omega
  have hfe : Hid (((fillN s.size : Nat) : Int) = s.size + m) := by have := fillN_ge s.size; show _ = _; omega
  have HM := Lib.hid hm
  have HSL := Lib.hid hsl
  clear hm hsl
  go_enter Tryd.func29, Tryd.ntmps29
  go_wp2_with fail
  refine (put_any v bs s.size w h (by omega) (by omega) (by omega)).mono ?_
  rintro e w1 ⟨v1, rfl, hown1, hb1⟩
  have HO1 := Lib.hid hown1
  clear hown1
  have hb1s := hb1.size
  go_wp2_with (
    at_builtin
    refine wpList_app rfl _ _ _ _ rfl _ _ rfl rfl (fun v' w' => Hid (w'.ownsRow w.heap.size 5 1 v' (bs.length + 4 + s.size) (bv (bs ++ le4 s.size) ++ bv s.data.toList) ∧ Below w.heap.size w1 w')) ?hrun ?_
    case hrun =>
      obtain ⟨v', w', hr, h2, h3⟩ := run_app_str (ty := 23) Tryd.underlying23 Tryd.underlying9 hi hz hs1 hby HO1.out s hb1s (by omega)
      exact ⟨v', w', hr, h2, h3⟩
    intro v2 w2 hR2)
  have hb2 : Below w.heap.size w w2 := hb1.trans hR2.out.2
  refine (filled_any _ _ (by omega)).mono ?_
  rintro e w3 ⟨rfl, rfl⟩
  rw [hfe.out]
  go_wp2_with fail
  go_loopw [0, 18] (PutRel w.heap.size (bs.length + 4 + s.size) m (bs ++ le4 s.size ++ s.data.toList) w) (fun _ i _ => m - (intOf i).toNat)
  case atStart => exact ⟨0, Nat.zero_le _, rfl, by simpa [bv_append] using hR2.out.1, hb2⟩
  case round =>
    obtain ⟨k, hk, rfl, hown, hb⟩ := hrel
    have HO := Lib.hid hown
    clear hown
    by_cases hlt : k < m
    · have hbs := hb.size
      go_wp2_with (
        at_builtin
        refine wpList_app rfl _ _ _ _ rfl _ _ rfl rfl (fun v' w' => Hid (w'.ownsRow w.heap.size 5 1 v' (bs.length + 4 + s.size + (k + 1)) (bv (bs ++ le4 s.size ++ s.data.toList ++ List.replicate (k + 1) 0)) ∧ Below w.heap.size wr w')) ?hrun ?_
        case hrun =>
          have hlit := sl_lit wr 5 [.int .u8 0] 1 rfl (by unfold maxLen; omega)
          obtain ⟨v', w', hr, h2, h3⟩ := run_app_own (ty := 23) Tryd.underlying23 hi hz hs1 rfl (HO.out.alloc (.cells [Value.int .u8 0].toArray 5)) hlit (by simp [Value.oneCell']) (by simp; omega) ⟨by omega, .inr hby⟩
          refine ⟨v', w', hr, ?_, ((Below.refl w.heap.size wr).alloc hbs _).trans h3⟩
          rw [List.replicate_succ', ← List.append_assoc, bv_append]
          exact h2
        intro v3 w3 hR3)
      go_roundw
      case rel => exact ⟨k + 1, by omega, by go_num, hR3.out.1, hb.trans hR3.out.2⟩
      case measure => simp [intOf]; omega
    · obtain rfl : k = m := by omega
      go_wp2
      go_ret
      refine ⟨_, rfl, ?_, hb⟩
      have h := HO.out
      have e1 : bs ++ encB s.data.toList = bs ++ le4 s.size ++ s.data.toList ++ List.replicate k 0 := by
        simp [encB, HSL.out, HM.out]
      have e2 : bs.length + (encB s.data.toList).length = bs.length + 4 + s.size + k := by
        rw [encB_length, HSL.out, HM.out]; have := fillN_ge s.size; omega
      rw [e1, e2]; exact h

set_option maxHeartbeats 400000 in
theorem putText_any (v : Value) (bs : List UInt8) (s : ByteArray) (w : World) (h : Sl w w.heap.size v (bv bs)) (hn : bs.length ≤ 140737488388000) (hs : s.size ≤ 65535) :
    Calls Tryd.prog 13 #[v, .string s] w fun e w' => ∃ v', e = .returned v' ∧ w'.ownsRow w.heap.size 5 1 v' (bs.length + (encB (s.data.toList ++ [0])).length) (bv (bs ++ encB (s.data.toList ++ [0]))) ∧ Below w.heap.size w w' := by
  go_enter Tryd.func13, Tryd.ntmps13
  go_wp2_with fail
  have e1 : (s ++ ⟨#[0]⟩ : ByteArray).data.toList = s.data.toList ++ [0] := by simp
  have e2 : (s ++ ⟨#[0]⟩ : ByteArray).size = s.size + 1 := by rw [ByteArray.size_append]; rfl
  refine (puts_any v bs _ w h hn (by omega)).mono ?_
  rintro e w1 ⟨v1, rfl, hown1, hb1⟩
  rw [e1] at hown1
  clear e1 e2
  have HO := Lib.hid hown1
  clear hown1
  go_wp2
  go_ret
  exact ⟨_, rfl, HO.out, hb1⟩
end Go.Proofs.YtnaagmjjnapklaaDoor
