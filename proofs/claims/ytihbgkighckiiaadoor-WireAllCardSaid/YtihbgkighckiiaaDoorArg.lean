/- wire.arg: an argument that stands at a place. No condition but that the errors stand in memory. -/
import Derived.Test.YtihbgkighckiiaaDoorArgL
import Derived.Test.YtihbgkighckiiaaDoorKind
import Derived.Test.YtihbgkighckiiaaDoorHead
import Derived.Deep.RegionWith
import Derived.Deep.CutBlock
import Derived.Deep.CutRange
namespace Go.Proofs.YtihbgkighckiiaaDoor
open Go.RowKit
set_option maxRecDepth 100000

def ArgPost (A : Nat → Addr) (k : Int) (bs : List UInt8) (a : Nat) (w : World) (e : Ending) (w' : World) : Prop :=
  ∃ (n : Int) (s : ByteArray) (x : Int), e = .returned (.tuple #[.agg #[.int .u8 k, .int .i64 n, .string s], .int .i64 x, errV A (argE k bs a)]) ∧ (argE k bs a = 0 → n = argN k bs a ∧ s = argS k bs a ∧ x = argX k bs a) ∧ Below w.heap.size w w'
theorem signed_lt {x : Int} (h : x < 2147483648) : signed x = x := by unfold signed; rw [if_pos h]
theorem signed_ge {x : Int} (h : ¬ x < 2147483648) : signed x = x - 4294967296 := by unfold signed; rw [if_neg h]
theorem below_set {B b i : Nat} {a w : World} {u : Value} (h : Below B a w) (hp : B ≤ b) : Below B a (w.setCell ⟨b, i, none⟩ u) := h.setCell (p := ⟨b, i, none⟩) hp u
set_option linter.unusedVariables false in
set_option maxHeartbeats 1000000 in
theorem arg_105 (A : Nat → Addr) (S : List Nat) (h1 : 1 ∈ S) (h2 : 2 ∈ S) (h3 : 3 ∈ S) (h4 : 4 ∈ S) (v : Value) (bs : List UInt8) (a : Nat) (w : World) (h : Sl w w.heap.size v (bv bs)) (hE : Errs w w.heap.size S A) (ha : a ≤ bs.length) (hl : bs.length ≤ 1000000000) :
    Calls Tryd.prog 42 #[.int .u8 105, v, .int .i64 a] w (ArgPost A 105 bs a w) := by
  have HE := Lib.hid hE
  have HS := Lib.hid h
  have HA := Lib.hid ha
  have ha9 : (a : Int) ≤ 1000000000 := by omega
  obtain ⟨g6, hg6⟩ : ∃ g6, g6 = w.heap.size := ⟨_, rfl⟩
  have HG6 := Lib.hid hg6
  clear h ha hl hE
  go_enter Tryd.func42, Tryd.ntmps42
  go_wp2_with fail
  have hb2 : Below w.heap.size w ((w.alloc (.cells #[.int .u8 0, .int .i64 0, .string ⟨#[]⟩] 26)).alloc (.cells #[.int .u8 105, .int .i64 0, .string ⟨#[]⟩] 26)) := ((Below.refl _ _).alloc (Nat.le_refl _) _).alloc (by simp) _
  have hk6 : Blk ((w.alloc (.cells #[.int .u8 0, .int .i64 0, .string ⟨#[]⟩] 26)).alloc (.cells #[.int .u8 105, .int .i64 0, .string ⟨#[]⟩] 26)) w.heap.size 26 #[.int .u8 0, .int .i64 0, .string ⟨#[]⟩] := (Blk.new _ _ _).alloc _
  have hk9 : Blk ((w.alloc (.cells #[.int .u8 0, .int .i64 0, .string ⟨#[]⟩] 26)).alloc (.cells #[.int .u8 105, .int .i64 0, .string ⟨#[]⟩] 26)) (w.heap.size + 1) 26 #[.int .u8 105, .int .i64 0, .string ⟨#[]⟩] := by
    have := Blk.new (w.alloc (.cells #[.int .u8 0, .int .i64 0, .string ⟨#[]⟩] 26)) 26 #[.int .u8 105, .int .i64 0, .string ⟨#[]⟩]
    rwa [World.size_alloc] at this
  have HB2 := Lib.hid hb2
  rw [← hg6] at hk6 hk9 ⊢
  have HK6 := Lib.hid hk6
  have HK9 := Lib.hid hk9
  clear hb2 hk6 hk9 hg6
  generalize ((w.alloc (.cells #[.int .u8 0, .int .i64 0, .string ⟨#[]⟩] 26)).alloc (.cells #[.int .u8 105, .int .i64 0, .string ⟨#[]⟩] 26)) = w2 at HB2 HK6 HK9 ⊢
  have HS2 := Lib.hid ((HS.out.below HB2.out).more HB2.out.size)
  have hgw : w.heap.size ≤ g6 := by have := HG6.out; omega
  have HE2 := Lib.hid (HE.out.to HB2.out HB2.out.size)
  by_cases he : getE bs a = 0
  · have hlen : a + 4 ≤ bs.length := by unfold getE at he; split at he; omega; split at he; omega; omega
    obtain ⟨x0, x1⟩ := leV_bd bs a
    obtain ⟨x, hx⟩ : ∃ x, leV bs a = x := ⟨_, rfl⟩
    rw [hx] at x0 x1
    have HX := Lib.hid hx
    have HLEN := Lib.hid hlen
    have HQ := Lib.hid he
    clear hx hlen he
    by_cases hx3 : x < 2147483648
    · skip
      have HAE : Hid (argE 105 bs a = 0) := by show _ = _; unfold argE; rw [if_pos (by omega), HQ.out]
      have HSZ : Hid ((⟨#[]⟩ : ByteArray).size ≤ 140737488351232) := by show (0 : Nat) ≤ _; omega
      have HSU : Hid (suchB 105 x ⟨#[]⟩ = true) := by show _ = _; unfold suchB suchI suchU suchN; simp <;> omega
      refine (hget_ok v bs a a rfl x HX.out w2 HS2.out HLEN.out).mono ?_
      rintro e w3 ⟨rfl, hb3⟩
      have HB3 := Lib.hid (HB2.out.trans (hb3.mono HB2.out.size))
      have hk6 := HK6.out.below hb3 HK6.out.lt
      have hk9 := HK9.out.below hb3 HK9.out.lt
      have c60 : w3.cell? ⟨g6, 0, none⟩ = some (.int .u8 0) := hk6.cell 0
      have f60 : w3.frozen? ⟨g6, 0, none⟩ = false := hk6.frozen 0
      have c61 : w3.cell? ⟨g6, 1, none⟩ = some (.int .i64 0) := hk6.cell 1
      have f61 : w3.frozen? ⟨g6, 1, none⟩ = false := hk6.frozen 1
      have c62 : w3.cell? ⟨g6, 2, none⟩ = some (.string ⟨#[]⟩) := hk6.cell 2
      have f62 : w3.frozen? ⟨g6, 2, none⟩ = false := hk6.frozen 2
      have c90 : w3.cell? ⟨g6 + 1, 0, none⟩ = some (.int .u8 105) := hk9.cell 0
      have f90 : w3.frozen? ⟨g6 + 1, 0, none⟩ = false := hk9.frozen 0
      have c91 : w3.cell? ⟨g6 + 1, 1, none⟩ = some (.int .i64 0) := hk9.cell 1
      have f91 : w3.frozen? ⟨g6 + 1, 1, none⟩ = false := hk9.frozen 1
      have c92 : w3.cell? ⟨g6 + 1, 2, none⟩ = some (.string ⟨#[]⟩) := hk9.cell 2
      have f92 : w3.frozen? ⟨g6 + 1, 2, none⟩ = false := hk9.frozen 2
      go_wp2_with fail
      refine (such_any 105 x ⟨#[]⟩ _ HSZ.out).mono ?_
      rintro e w4 ⟨rfl, hb4⟩
      rw [HSU.out]
      have hk9' := ((hk9.set_ 1 _).set_ 1 _).below hb4 ((hk9.set_ 1 _).set_ 1 _).lt
      have hk6' := ((hk6.far (show g6 ≠ g6 + 1 by omega) _).far (show g6 ≠ g6 + 1 by omega) _).below hb4 ((hk6.far (show g6 ≠ g6 + 1 by omega) _).far (show g6 ≠ g6 + 1 by omega) _).lt
      have HB4 : Hid (Below w.heap.size w w4) := by
        refine Below.trans ?_ (hb4.mono ?_)
        · repeat (refine below_set ?_ (by omega))
          exact HB3.out
        · exact Nat.le_trans HB3.out.size (by simp)
      clear c60 c61 c62 c90 c91 c92 f60 f61 f62 f90 f91 f92 hk6 hk9
      have hk6 := hk6'
      have hk9 := hk9'
      clear hk6' hk9' hb4 hb3
      have c60 : w4.cell? ⟨g6, 0, none⟩ = some (.int .u8 0) := hk6.cell 0
      have f60 : w4.frozen? ⟨g6, 0, none⟩ = false := hk6.frozen 0
      have c61 : w4.cell? ⟨g6, 1, none⟩ = some (.int .i64 0) := hk6.cell 1
      have f61 : w4.frozen? ⟨g6, 1, none⟩ = false := hk6.frozen 1
      have c62 : w4.cell? ⟨g6, 2, none⟩ = some (.string ⟨#[]⟩) := hk6.cell 2
      have f62 : w4.frozen? ⟨g6, 2, none⟩ = false := hk6.frozen 2
      have c90 : w4.cell? ⟨g6 + 1, 0, none⟩ = some (.int .u8 105) := hk9.cell 0
      have f90 : w4.frozen? ⟨g6 + 1, 0, none⟩ = false := hk9.frozen 0
      have c91 : w4.cell? ⟨g6 + 1, 1, none⟩ = some (.int .i64 x) := hk9.cell 1
      have f91 : w4.frozen? ⟨g6 + 1, 1, none⟩ = false := hk9.frozen 1
      have c92 : w4.cell? ⟨g6 + 1, 2, none⟩ = some (.string ⟨#[]⟩) := hk9.cell 2
      have f92 : w4.frozen? ⟨g6 + 1, 2, none⟩ = false := hk9.frozen 2
      clear hk6 hk9
      go_wp2_with fail
      refine bodyPost_ret (v := .tuple #[.agg #[.int .u8 105, .int .i64 x, .string ⟨#[]⟩], .int .i64 ((a : Int) + 4), .nilIface]) (by simp [results, Tryd.results42, go_sem, *]) rfl ?_
      refine ⟨x, ⟨#[]⟩, _, by first | (rw [HAE.out]; done) | (rw [HAE.out]; rfl), ?_, ?_⟩
      · intro _; exact ⟨by unfold argN; rw [if_pos (by omega), HX.out, signed_lt (show x < 2147483648 by omega)], by unfold argS; rw [if_neg (by omega), if_neg (by omega)], by unfold argX; rw [if_neg (by omega)]; rfl⟩
      · repeat (refine below_set ?_ (by omega))
        exact HB4.out
    · have hx4 : 2147483648 ≤ x := by omega
      have hw : wrap64 (wrap32 x) = x - 4294967296 := by unfold wrap64 wrap32; omega
      have HAE : Hid (argE 105 bs a = 0) := by show _ = _; unfold argE; rw [if_pos (by omega), HQ.out]
      have HSZ : Hid ((⟨#[]⟩ : ByteArray).size ≤ 140737488351232) := by show (0 : Nat) ≤ _; omega
      have HSU : Hid (suchB 105 (x - 4294967296) ⟨#[]⟩ = true) := by show _ = _; unfold suchB suchI suchU suchN; simp <;> omega
      refine (hget_ok v bs a a rfl x HX.out w2 HS2.out HLEN.out).mono ?_
      rintro e w3 ⟨rfl, hb3⟩
      have HB3 := Lib.hid (HB2.out.trans (hb3.mono HB2.out.size))
      have hk6 := HK6.out.below hb3 HK6.out.lt
      have hk9 := HK9.out.below hb3 HK9.out.lt
      have c60 : w3.cell? ⟨g6, 0, none⟩ = some (.int .u8 0) := hk6.cell 0
      have f60 : w3.frozen? ⟨g6, 0, none⟩ = false := hk6.frozen 0
      have c61 : w3.cell? ⟨g6, 1, none⟩ = some (.int .i64 0) := hk6.cell 1
      have f61 : w3.frozen? ⟨g6, 1, none⟩ = false := hk6.frozen 1
      have c62 : w3.cell? ⟨g6, 2, none⟩ = some (.string ⟨#[]⟩) := hk6.cell 2
      have f62 : w3.frozen? ⟨g6, 2, none⟩ = false := hk6.frozen 2
      have c90 : w3.cell? ⟨g6 + 1, 0, none⟩ = some (.int .u8 105) := hk9.cell 0
      have f90 : w3.frozen? ⟨g6 + 1, 0, none⟩ = false := hk9.frozen 0
      have c91 : w3.cell? ⟨g6 + 1, 1, none⟩ = some (.int .i64 0) := hk9.cell 1
      have f91 : w3.frozen? ⟨g6 + 1, 1, none⟩ = false := hk9.frozen 1
      have c92 : w3.cell? ⟨g6 + 1, 2, none⟩ = some (.string ⟨#[]⟩) := hk9.cell 2
      have f92 : w3.frozen? ⟨g6 + 1, 2, none⟩ = false := hk9.frozen 2
      go_wp2_with fail
      refine (such_any 105 (x - 4294967296) ⟨#[]⟩ _ HSZ.out).mono ?_
      rintro e w4 ⟨rfl, hb4⟩
      rw [HSU.out]
      have hk9' := ((hk9.set_ 1 _).set_ 1 _).below hb4 ((hk9.set_ 1 _).set_ 1 _).lt
      have hk6' := ((hk6.far (show g6 ≠ g6 + 1 by omega) _).far (show g6 ≠ g6 + 1 by omega) _).below hb4 ((hk6.far (show g6 ≠ g6 + 1 by omega) _).far (show g6 ≠ g6 + 1 by omega) _).lt
      have HB4 : Hid (Below w.heap.size w w4) := by
        refine Below.trans ?_ (hb4.mono ?_)
        · repeat (refine below_set ?_ (by omega))
          exact HB3.out
        · exact Nat.le_trans HB3.out.size (by simp)
      clear c60 c61 c62 c90 c91 c92 f60 f61 f62 f90 f91 f92 hk6 hk9
      have hk6 := hk6'
      have hk9 := hk9'
      clear hk6' hk9' hb4 hb3
      have c60 : w4.cell? ⟨g6, 0, none⟩ = some (.int .u8 0) := hk6.cell 0
      have f60 : w4.frozen? ⟨g6, 0, none⟩ = false := hk6.frozen 0
      have c61 : w4.cell? ⟨g6, 1, none⟩ = some (.int .i64 0) := hk6.cell 1
      have f61 : w4.frozen? ⟨g6, 1, none⟩ = false := hk6.frozen 1
      have c62 : w4.cell? ⟨g6, 2, none⟩ = some (.string ⟨#[]⟩) := hk6.cell 2
      have f62 : w4.frozen? ⟨g6, 2, none⟩ = false := hk6.frozen 2
      have c90 : w4.cell? ⟨g6 + 1, 0, none⟩ = some (.int .u8 105) := hk9.cell 0
      have f90 : w4.frozen? ⟨g6 + 1, 0, none⟩ = false := hk9.frozen 0
      have c91 : w4.cell? ⟨g6 + 1, 1, none⟩ = some (.int .i64 (x - 4294967296)) := hk9.cell 1
      have f91 : w4.frozen? ⟨g6 + 1, 1, none⟩ = false := hk9.frozen 1
      have c92 : w4.cell? ⟨g6 + 1, 2, none⟩ = some (.string ⟨#[]⟩) := hk9.cell 2
      have f92 : w4.frozen? ⟨g6 + 1, 2, none⟩ = false := hk9.frozen 2
      clear hk6 hk9
      go_wp2_with fail
      refine bodyPost_ret (v := .tuple #[.agg #[.int .u8 105, .int .i64 (x - 4294967296), .string ⟨#[]⟩], .int .i64 ((a : Int) + 4), .nilIface]) (by simp [results, Tryd.results42, go_sem, *]) rfl ?_
      refine ⟨(x - 4294967296), ⟨#[]⟩, _, by first | (rw [HAE.out]; done) | (rw [HAE.out]; rfl), ?_, ?_⟩
      · intro _; exact ⟨by unfold argN; rw [if_pos (by omega), HX.out, signed_ge (show ¬ x < 2147483648 by omega)], by unfold argS; rw [if_neg (by omega), if_neg (by omega)], by unfold argX; rw [if_neg (by omega)]; rfl⟩
      · repeat (refine below_set ?_ (by omega))
        exact HB4.out
  · obtain ⟨q, hq⟩ : ∃ q, q = getE bs a := ⟨_, rfl⟩
    have hv : getV bs a = 0 := by unfold getV; rw [if_neg he]
    have hae : argE 105 bs a = q := by unfold argE; rw [if_pos (by omega), hq]
    have hq2 := getE_le2 bs a
    rw [← hq] at he hq2
    have HQ := Lib.hid hq
    have HV := Lib.hid hv
    have HAE := Lib.hid hae
    have hq0 : 0 < q := by omega
    clear hq hv hae he
    refine (get_any A S v bs a w2 HS2.out HE2.out h1 h2).mono ?_
    rintro e w3 ⟨rfl, hb3⟩
    rw [HV.out, ← HQ.out, errV_pos A hq0]
    have HB3 := Lib.hid (HB2.out.trans (hb3.mono HB2.out.size))
    have hk6 := HK6.out.below hb3 HK6.out.lt
    have hk9 := HK9.out.below hb3 HK9.out.lt
    have c60 : w3.cell? ⟨g6, 0, none⟩ = some (.int .u8 0) := hk6.cell 0
    have f60 : w3.frozen? ⟨g6, 0, none⟩ = false := hk6.frozen 0
    have c61 : w3.cell? ⟨g6, 1, none⟩ = some (.int .i64 0) := hk6.cell 1
    have f61 : w3.frozen? ⟨g6, 1, none⟩ = false := hk6.frozen 1
    have c62 : w3.cell? ⟨g6, 2, none⟩ = some (.string ⟨#[]⟩) := hk6.cell 2
    have f62 : w3.frozen? ⟨g6, 2, none⟩ = false := hk6.frozen 2
    have c90 : w3.cell? ⟨g6 + 1, 0, none⟩ = some (.int .u8 105) := hk9.cell 0
    have f90 : w3.frozen? ⟨g6 + 1, 0, none⟩ = false := hk9.frozen 0
    have c91 : w3.cell? ⟨g6 + 1, 1, none⟩ = some (.int .i64 0) := hk9.cell 1
    have f91 : w3.frozen? ⟨g6 + 1, 1, none⟩ = false := hk9.frozen 1
    have c92 : w3.cell? ⟨g6 + 1, 2, none⟩ = some (.string ⟨#[]⟩) := hk9.cell 2
    have f92 : w3.frozen? ⟨g6 + 1, 2, none⟩ = false := hk9.frozen 2
    clear hb3 hk6 hk9
    go_wp2_with fail
    refine bodyPost_ret (v := .tuple #[.agg #[.int .u8 105, .int .i64 0, .string ⟨#[]⟩], .int .i64 ((a : Int) + 4), .iface 121 (.pointer (some (A q)))]) (by simp [results, Tryd.results42, go_sem, *]) rfl ?_
    refine ⟨0, ⟨#[]⟩, _, by first | (rw [HAE.out, errV_pos A hq0]; done) | (rw [HAE.out, errV_pos A hq0]; rfl), ?_, ?_⟩
    · intro hx; rw [HAE.out] at hx; omega
    · repeat (refine below_set ?_ (by omega))
      exact HB3.out
set_option linter.unusedVariables false in
set_option maxHeartbeats 1000000 in
theorem arg_102 (A : Nat → Addr) (S : List Nat) (h1 : 1 ∈ S) (h2 : 2 ∈ S) (h3 : 3 ∈ S) (h4 : 4 ∈ S) (v : Value) (bs : List UInt8) (a : Nat) (w : World) (h : Sl w w.heap.size v (bv bs)) (hE : Errs w w.heap.size S A) (ha : a ≤ bs.length) (hl : bs.length ≤ 1000000000) :
    Calls Tryd.prog 42 #[.int .u8 102, v, .int .i64 a] w (ArgPost A 102 bs a w) := by
  have HE := Lib.hid hE
  have HS := Lib.hid h
  have HA := Lib.hid ha
  have ha9 : (a : Int) ≤ 1000000000 := by omega
  obtain ⟨g6, hg6⟩ : ∃ g6, g6 = w.heap.size := ⟨_, rfl⟩
  have HG6 := Lib.hid hg6
  clear h ha hl hE
  go_enter Tryd.func42, Tryd.ntmps42
  go_wp2_with fail
  have hb2 : Below w.heap.size w ((w.alloc (.cells #[.int .u8 0, .int .i64 0, .string ⟨#[]⟩] 26)).alloc (.cells #[.int .u8 102, .int .i64 0, .string ⟨#[]⟩] 26)) := ((Below.refl _ _).alloc (Nat.le_refl _) _).alloc (by simp) _
  have hk6 : Blk ((w.alloc (.cells #[.int .u8 0, .int .i64 0, .string ⟨#[]⟩] 26)).alloc (.cells #[.int .u8 102, .int .i64 0, .string ⟨#[]⟩] 26)) w.heap.size 26 #[.int .u8 0, .int .i64 0, .string ⟨#[]⟩] := (Blk.new _ _ _).alloc _
  have hk9 : Blk ((w.alloc (.cells #[.int .u8 0, .int .i64 0, .string ⟨#[]⟩] 26)).alloc (.cells #[.int .u8 102, .int .i64 0, .string ⟨#[]⟩] 26)) (w.heap.size + 1) 26 #[.int .u8 102, .int .i64 0, .string ⟨#[]⟩] := by
    have := Blk.new (w.alloc (.cells #[.int .u8 0, .int .i64 0, .string ⟨#[]⟩] 26)) 26 #[.int .u8 102, .int .i64 0, .string ⟨#[]⟩]
    rwa [World.size_alloc] at this
  have HB2 := Lib.hid hb2
  rw [← hg6] at hk6 hk9 ⊢
  have HK6 := Lib.hid hk6
  have HK9 := Lib.hid hk9
  clear hb2 hk6 hk9 hg6
  generalize ((w.alloc (.cells #[.int .u8 0, .int .i64 0, .string ⟨#[]⟩] 26)).alloc (.cells #[.int .u8 102, .int .i64 0, .string ⟨#[]⟩] 26)) = w2 at HB2 HK6 HK9 ⊢
  have HS2 := Lib.hid ((HS.out.below HB2.out).more HB2.out.size)
  have hgw : w.heap.size ≤ g6 := by have := HG6.out; omega
  have HE2 := Lib.hid (HE.out.to HB2.out HB2.out.size)
  by_cases he : getE bs a = 0
  · have hlen : a + 4 ≤ bs.length := by unfold getE at he; split at he; omega; split at he; omega; omega
    obtain ⟨x0, x1⟩ := leV_bd bs a
    obtain ⟨x, hx⟩ : ∃ x, leV bs a = x := ⟨_, rfl⟩
    rw [hx] at x0 x1
    have HX := Lib.hid hx
    have HLEN := Lib.hid hlen
    have HQ := Lib.hid he
    clear hx hlen he
    by_cases hx3 : x < 2147483648
    · skip
      have HAE : Hid (argE 102 bs a = 0) := by show _ = _; unfold argE; rw [if_pos (by omega), HQ.out]
      have HSZ : Hid ((⟨#[]⟩ : ByteArray).size ≤ 140737488351232) := by show (0 : Nat) ≤ _; omega
      have HSU : Hid (suchB 102 x ⟨#[]⟩ = true) := by show _ = _; unfold suchB suchI suchU suchN; simp <;> omega
      refine (hget_ok v bs a a rfl x HX.out w2 HS2.out HLEN.out).mono ?_
      rintro e w3 ⟨rfl, hb3⟩
      have HB3 := Lib.hid (HB2.out.trans (hb3.mono HB2.out.size))
      have hk6 := HK6.out.below hb3 HK6.out.lt
      have hk9 := HK9.out.below hb3 HK9.out.lt
      have c60 : w3.cell? ⟨g6, 0, none⟩ = some (.int .u8 0) := hk6.cell 0
      have f60 : w3.frozen? ⟨g6, 0, none⟩ = false := hk6.frozen 0
      have c61 : w3.cell? ⟨g6, 1, none⟩ = some (.int .i64 0) := hk6.cell 1
      have f61 : w3.frozen? ⟨g6, 1, none⟩ = false := hk6.frozen 1
      have c62 : w3.cell? ⟨g6, 2, none⟩ = some (.string ⟨#[]⟩) := hk6.cell 2
      have f62 : w3.frozen? ⟨g6, 2, none⟩ = false := hk6.frozen 2
      have c90 : w3.cell? ⟨g6 + 1, 0, none⟩ = some (.int .u8 102) := hk9.cell 0
      have f90 : w3.frozen? ⟨g6 + 1, 0, none⟩ = false := hk9.frozen 0
      have c91 : w3.cell? ⟨g6 + 1, 1, none⟩ = some (.int .i64 0) := hk9.cell 1
      have f91 : w3.frozen? ⟨g6 + 1, 1, none⟩ = false := hk9.frozen 1
      have c92 : w3.cell? ⟨g6 + 1, 2, none⟩ = some (.string ⟨#[]⟩) := hk9.cell 2
      have f92 : w3.frozen? ⟨g6 + 1, 2, none⟩ = false := hk9.frozen 2
      go_wp2_with fail
      refine (such_any 102 x ⟨#[]⟩ _ HSZ.out).mono ?_
      rintro e w4 ⟨rfl, hb4⟩
      rw [HSU.out]
      have hk9' := ((hk9.set_ 1 _).set_ 1 _).below hb4 ((hk9.set_ 1 _).set_ 1 _).lt
      have hk6' := ((hk6.far (show g6 ≠ g6 + 1 by omega) _).far (show g6 ≠ g6 + 1 by omega) _).below hb4 ((hk6.far (show g6 ≠ g6 + 1 by omega) _).far (show g6 ≠ g6 + 1 by omega) _).lt
      have HB4 : Hid (Below w.heap.size w w4) := by
        refine Below.trans ?_ (hb4.mono ?_)
        · repeat (refine below_set ?_ (by omega))
          exact HB3.out
        · exact Nat.le_trans HB3.out.size (by simp)
      clear c60 c61 c62 c90 c91 c92 f60 f61 f62 f90 f91 f92 hk6 hk9
      have hk6 := hk6'
      have hk9 := hk9'
      clear hk6' hk9' hb4 hb3
      have c60 : w4.cell? ⟨g6, 0, none⟩ = some (.int .u8 0) := hk6.cell 0
      have f60 : w4.frozen? ⟨g6, 0, none⟩ = false := hk6.frozen 0
      have c61 : w4.cell? ⟨g6, 1, none⟩ = some (.int .i64 0) := hk6.cell 1
      have f61 : w4.frozen? ⟨g6, 1, none⟩ = false := hk6.frozen 1
      have c62 : w4.cell? ⟨g6, 2, none⟩ = some (.string ⟨#[]⟩) := hk6.cell 2
      have f62 : w4.frozen? ⟨g6, 2, none⟩ = false := hk6.frozen 2
      have c90 : w4.cell? ⟨g6 + 1, 0, none⟩ = some (.int .u8 102) := hk9.cell 0
      have f90 : w4.frozen? ⟨g6 + 1, 0, none⟩ = false := hk9.frozen 0
      have c91 : w4.cell? ⟨g6 + 1, 1, none⟩ = some (.int .i64 x) := hk9.cell 1
      have f91 : w4.frozen? ⟨g6 + 1, 1, none⟩ = false := hk9.frozen 1
      have c92 : w4.cell? ⟨g6 + 1, 2, none⟩ = some (.string ⟨#[]⟩) := hk9.cell 2
      have f92 : w4.frozen? ⟨g6 + 1, 2, none⟩ = false := hk9.frozen 2
      clear hk6 hk9
      go_wp2_with fail
      refine bodyPost_ret (v := .tuple #[.agg #[.int .u8 102, .int .i64 x, .string ⟨#[]⟩], .int .i64 ((a : Int) + 4), .nilIface]) (by simp [results, Tryd.results42, go_sem, *]) rfl ?_
      refine ⟨x, ⟨#[]⟩, _, by first | (rw [HAE.out]; done) | (rw [HAE.out]; rfl), ?_, ?_⟩
      · intro _; exact ⟨by unfold argN; rw [if_pos (by omega), HX.out, signed_lt (show x < 2147483648 by omega)], by unfold argS; rw [if_neg (by omega), if_neg (by omega)], by unfold argX; rw [if_neg (by omega)]; rfl⟩
      · repeat (refine below_set ?_ (by omega))
        exact HB4.out
    · have hx4 : 2147483648 ≤ x := by omega
      have hw : wrap64 (wrap32 x) = x - 4294967296 := by unfold wrap64 wrap32; omega
      have HAE : Hid (argE 102 bs a = 0) := by show _ = _; unfold argE; rw [if_pos (by omega), HQ.out]
      have HSZ : Hid ((⟨#[]⟩ : ByteArray).size ≤ 140737488351232) := by show (0 : Nat) ≤ _; omega
      have HSU : Hid (suchB 102 (x - 4294967296) ⟨#[]⟩ = true) := by show _ = _; unfold suchB suchI suchU suchN; simp <;> omega
      refine (hget_ok v bs a a rfl x HX.out w2 HS2.out HLEN.out).mono ?_
      rintro e w3 ⟨rfl, hb3⟩
      have HB3 := Lib.hid (HB2.out.trans (hb3.mono HB2.out.size))
      have hk6 := HK6.out.below hb3 HK6.out.lt
      have hk9 := HK9.out.below hb3 HK9.out.lt
      have c60 : w3.cell? ⟨g6, 0, none⟩ = some (.int .u8 0) := hk6.cell 0
      have f60 : w3.frozen? ⟨g6, 0, none⟩ = false := hk6.frozen 0
      have c61 : w3.cell? ⟨g6, 1, none⟩ = some (.int .i64 0) := hk6.cell 1
      have f61 : w3.frozen? ⟨g6, 1, none⟩ = false := hk6.frozen 1
      have c62 : w3.cell? ⟨g6, 2, none⟩ = some (.string ⟨#[]⟩) := hk6.cell 2
      have f62 : w3.frozen? ⟨g6, 2, none⟩ = false := hk6.frozen 2
      have c90 : w3.cell? ⟨g6 + 1, 0, none⟩ = some (.int .u8 102) := hk9.cell 0
      have f90 : w3.frozen? ⟨g6 + 1, 0, none⟩ = false := hk9.frozen 0
      have c91 : w3.cell? ⟨g6 + 1, 1, none⟩ = some (.int .i64 0) := hk9.cell 1
      have f91 : w3.frozen? ⟨g6 + 1, 1, none⟩ = false := hk9.frozen 1
      have c92 : w3.cell? ⟨g6 + 1, 2, none⟩ = some (.string ⟨#[]⟩) := hk9.cell 2
      have f92 : w3.frozen? ⟨g6 + 1, 2, none⟩ = false := hk9.frozen 2
      go_wp2_with fail
      refine (such_any 102 (x - 4294967296) ⟨#[]⟩ _ HSZ.out).mono ?_
      rintro e w4 ⟨rfl, hb4⟩
      rw [HSU.out]
      have hk9' := ((hk9.set_ 1 _).set_ 1 _).below hb4 ((hk9.set_ 1 _).set_ 1 _).lt
      have hk6' := ((hk6.far (show g6 ≠ g6 + 1 by omega) _).far (show g6 ≠ g6 + 1 by omega) _).below hb4 ((hk6.far (show g6 ≠ g6 + 1 by omega) _).far (show g6 ≠ g6 + 1 by omega) _).lt
      have HB4 : Hid (Below w.heap.size w w4) := by
        refine Below.trans ?_ (hb4.mono ?_)
        · repeat (refine below_set ?_ (by omega))
          exact HB3.out
        · exact Nat.le_trans HB3.out.size (by simp)
      clear c60 c61 c62 c90 c91 c92 f60 f61 f62 f90 f91 f92 hk6 hk9
      have hk6 := hk6'
      have hk9 := hk9'
      clear hk6' hk9' hb4 hb3
      have c60 : w4.cell? ⟨g6, 0, none⟩ = some (.int .u8 0) := hk6.cell 0
      have f60 : w4.frozen? ⟨g6, 0, none⟩ = false := hk6.frozen 0
      have c61 : w4.cell? ⟨g6, 1, none⟩ = some (.int .i64 0) := hk6.cell 1
      have f61 : w4.frozen? ⟨g6, 1, none⟩ = false := hk6.frozen 1
      have c62 : w4.cell? ⟨g6, 2, none⟩ = some (.string ⟨#[]⟩) := hk6.cell 2
      have f62 : w4.frozen? ⟨g6, 2, none⟩ = false := hk6.frozen 2
      have c90 : w4.cell? ⟨g6 + 1, 0, none⟩ = some (.int .u8 102) := hk9.cell 0
      have f90 : w4.frozen? ⟨g6 + 1, 0, none⟩ = false := hk9.frozen 0
      have c91 : w4.cell? ⟨g6 + 1, 1, none⟩ = some (.int .i64 (x - 4294967296)) := hk9.cell 1
      have f91 : w4.frozen? ⟨g6 + 1, 1, none⟩ = false := hk9.frozen 1
      have c92 : w4.cell? ⟨g6 + 1, 2, none⟩ = some (.string ⟨#[]⟩) := hk9.cell 2
      have f92 : w4.frozen? ⟨g6 + 1, 2, none⟩ = false := hk9.frozen 2
      clear hk6 hk9
      go_wp2_with fail
      refine bodyPost_ret (v := .tuple #[.agg #[.int .u8 102, .int .i64 (x - 4294967296), .string ⟨#[]⟩], .int .i64 ((a : Int) + 4), .nilIface]) (by simp [results, Tryd.results42, go_sem, *]) rfl ?_
      refine ⟨(x - 4294967296), ⟨#[]⟩, _, by first | (rw [HAE.out]; done) | (rw [HAE.out]; rfl), ?_, ?_⟩
      · intro _; exact ⟨by unfold argN; rw [if_pos (by omega), HX.out, signed_ge (show ¬ x < 2147483648 by omega)], by unfold argS; rw [if_neg (by omega), if_neg (by omega)], by unfold argX; rw [if_neg (by omega)]; rfl⟩
      · repeat (refine below_set ?_ (by omega))
        exact HB4.out
  · obtain ⟨q, hq⟩ : ∃ q, q = getE bs a := ⟨_, rfl⟩
    have hv : getV bs a = 0 := by unfold getV; rw [if_neg he]
    have hae : argE 102 bs a = q := by unfold argE; rw [if_pos (by omega), hq]
    have hq2 := getE_le2 bs a
    rw [← hq] at he hq2
    have HQ := Lib.hid hq
    have HV := Lib.hid hv
    have HAE := Lib.hid hae
    have hq0 : 0 < q := by omega
    clear hq hv hae he
    refine (get_any A S v bs a w2 HS2.out HE2.out h1 h2).mono ?_
    rintro e w3 ⟨rfl, hb3⟩
    rw [HV.out, ← HQ.out, errV_pos A hq0]
    have HB3 := Lib.hid (HB2.out.trans (hb3.mono HB2.out.size))
    have hk6 := HK6.out.below hb3 HK6.out.lt
    have hk9 := HK9.out.below hb3 HK9.out.lt
    have c60 : w3.cell? ⟨g6, 0, none⟩ = some (.int .u8 0) := hk6.cell 0
    have f60 : w3.frozen? ⟨g6, 0, none⟩ = false := hk6.frozen 0
    have c61 : w3.cell? ⟨g6, 1, none⟩ = some (.int .i64 0) := hk6.cell 1
    have f61 : w3.frozen? ⟨g6, 1, none⟩ = false := hk6.frozen 1
    have c62 : w3.cell? ⟨g6, 2, none⟩ = some (.string ⟨#[]⟩) := hk6.cell 2
    have f62 : w3.frozen? ⟨g6, 2, none⟩ = false := hk6.frozen 2
    have c90 : w3.cell? ⟨g6 + 1, 0, none⟩ = some (.int .u8 102) := hk9.cell 0
    have f90 : w3.frozen? ⟨g6 + 1, 0, none⟩ = false := hk9.frozen 0
    have c91 : w3.cell? ⟨g6 + 1, 1, none⟩ = some (.int .i64 0) := hk9.cell 1
    have f91 : w3.frozen? ⟨g6 + 1, 1, none⟩ = false := hk9.frozen 1
    have c92 : w3.cell? ⟨g6 + 1, 2, none⟩ = some (.string ⟨#[]⟩) := hk9.cell 2
    have f92 : w3.frozen? ⟨g6 + 1, 2, none⟩ = false := hk9.frozen 2
    clear hb3 hk6 hk9
    go_wp2_with fail
    refine bodyPost_ret (v := .tuple #[.agg #[.int .u8 102, .int .i64 0, .string ⟨#[]⟩], .int .i64 ((a : Int) + 4), .iface 121 (.pointer (some (A q)))]) (by simp [results, Tryd.results42, go_sem, *]) rfl ?_
    refine ⟨0, ⟨#[]⟩, _, by first | (rw [HAE.out, errV_pos A hq0]; done) | (rw [HAE.out, errV_pos A hq0]; rfl), ?_, ?_⟩
    · intro hx; rw [HAE.out] at hx; omega
    · repeat (refine below_set ?_ (by omega))
      exact HB3.out
set_option linter.unusedVariables false in
set_option maxHeartbeats 1000000 in
theorem arg_117 (A : Nat → Addr) (S : List Nat) (h1 : 1 ∈ S) (h2 : 2 ∈ S) (h3 : 3 ∈ S) (h4 : 4 ∈ S) (v : Value) (bs : List UInt8) (a : Nat) (w : World) (h : Sl w w.heap.size v (bv bs)) (hE : Errs w w.heap.size S A) (ha : a ≤ bs.length) (hl : bs.length ≤ 1000000000) :
    Calls Tryd.prog 42 #[.int .u8 117, v, .int .i64 a] w (ArgPost A 117 bs a w) := by
  have HE := Lib.hid hE
  have HS := Lib.hid h
  have HA := Lib.hid ha
  have ha9 : (a : Int) ≤ 1000000000 := by omega
  obtain ⟨g6, hg6⟩ : ∃ g6, g6 = w.heap.size := ⟨_, rfl⟩
  have HG6 := Lib.hid hg6
  clear h ha hl hE
  go_enter Tryd.func42, Tryd.ntmps42
  go_wp2_with fail
  have hb2 : Below w.heap.size w ((w.alloc (.cells #[.int .u8 0, .int .i64 0, .string ⟨#[]⟩] 26)).alloc (.cells #[.int .u8 117, .int .i64 0, .string ⟨#[]⟩] 26)) := ((Below.refl _ _).alloc (Nat.le_refl _) _).alloc (by simp) _
  have hk6 : Blk ((w.alloc (.cells #[.int .u8 0, .int .i64 0, .string ⟨#[]⟩] 26)).alloc (.cells #[.int .u8 117, .int .i64 0, .string ⟨#[]⟩] 26)) w.heap.size 26 #[.int .u8 0, .int .i64 0, .string ⟨#[]⟩] := (Blk.new _ _ _).alloc _
  have hk9 : Blk ((w.alloc (.cells #[.int .u8 0, .int .i64 0, .string ⟨#[]⟩] 26)).alloc (.cells #[.int .u8 117, .int .i64 0, .string ⟨#[]⟩] 26)) (w.heap.size + 1) 26 #[.int .u8 117, .int .i64 0, .string ⟨#[]⟩] := by
    have := Blk.new (w.alloc (.cells #[.int .u8 0, .int .i64 0, .string ⟨#[]⟩] 26)) 26 #[.int .u8 117, .int .i64 0, .string ⟨#[]⟩]
    rwa [World.size_alloc] at this
  have HB2 := Lib.hid hb2
  rw [← hg6] at hk6 hk9 ⊢
  have HK6 := Lib.hid hk6
  have HK9 := Lib.hid hk9
  clear hb2 hk6 hk9 hg6
  generalize ((w.alloc (.cells #[.int .u8 0, .int .i64 0, .string ⟨#[]⟩] 26)).alloc (.cells #[.int .u8 117, .int .i64 0, .string ⟨#[]⟩] 26)) = w2 at HB2 HK6 HK9 ⊢
  have HS2 := Lib.hid ((HS.out.below HB2.out).more HB2.out.size)
  have hgw : w.heap.size ≤ g6 := by have := HG6.out; omega
  have HE2 := Lib.hid (HE.out.to HB2.out HB2.out.size)
  by_cases he : getE bs a = 0
  · have hlen : a + 4 ≤ bs.length := by unfold getE at he; split at he; omega; split at he; omega; omega
    obtain ⟨x0, x1⟩ := leV_bd bs a
    obtain ⟨x, hx⟩ : ∃ x, leV bs a = x := ⟨_, rfl⟩
    rw [hx] at x0 x1
    have HX := Lib.hid hx
    have HLEN := Lib.hid hlen
    have HQ := Lib.hid he
    clear hx hlen he
    skip
    have HAE : Hid (argE 117 bs a = 0) := by show _ = _; unfold argE; rw [if_pos (by omega), HQ.out]
    have HSZ : Hid ((⟨#[]⟩ : ByteArray).size ≤ 140737488351232) := by show (0 : Nat) ≤ _; omega
    have HSU : Hid (suchB 117 x ⟨#[]⟩ = true) := by show _ = _; unfold suchB suchI suchU suchN; simp <;> omega
    refine (hget_ok v bs a a rfl x HX.out w2 HS2.out HLEN.out).mono ?_
    rintro e w3 ⟨rfl, hb3⟩
    have HB3 := Lib.hid (HB2.out.trans (hb3.mono HB2.out.size))
    have hk6 := HK6.out.below hb3 HK6.out.lt
    have hk9 := HK9.out.below hb3 HK9.out.lt
    have c60 : w3.cell? ⟨g6, 0, none⟩ = some (.int .u8 0) := hk6.cell 0
    have f60 : w3.frozen? ⟨g6, 0, none⟩ = false := hk6.frozen 0
    have c61 : w3.cell? ⟨g6, 1, none⟩ = some (.int .i64 0) := hk6.cell 1
    have f61 : w3.frozen? ⟨g6, 1, none⟩ = false := hk6.frozen 1
    have c62 : w3.cell? ⟨g6, 2, none⟩ = some (.string ⟨#[]⟩) := hk6.cell 2
    have f62 : w3.frozen? ⟨g6, 2, none⟩ = false := hk6.frozen 2
    have c90 : w3.cell? ⟨g6 + 1, 0, none⟩ = some (.int .u8 117) := hk9.cell 0
    have f90 : w3.frozen? ⟨g6 + 1, 0, none⟩ = false := hk9.frozen 0
    have c91 : w3.cell? ⟨g6 + 1, 1, none⟩ = some (.int .i64 0) := hk9.cell 1
    have f91 : w3.frozen? ⟨g6 + 1, 1, none⟩ = false := hk9.frozen 1
    have c92 : w3.cell? ⟨g6 + 1, 2, none⟩ = some (.string ⟨#[]⟩) := hk9.cell 2
    have f92 : w3.frozen? ⟨g6 + 1, 2, none⟩ = false := hk9.frozen 2
    go_wp2_with fail
    refine (such_any 117 x ⟨#[]⟩ _ HSZ.out).mono ?_
    rintro e w4 ⟨rfl, hb4⟩
    rw [HSU.out]
    have hk9' := (hk9.set_ 1 _).below hb4 (hk9.set_ 1 _).lt
    have hk6' := (hk6.far (show g6 ≠ g6 + 1 by omega) _).below hb4 (hk6.far (show g6 ≠ g6 + 1 by omega) _).lt
    have HB4 : Hid (Below w.heap.size w w4) := by
      refine Below.trans ?_ (hb4.mono ?_)
      · repeat (refine below_set ?_ (by omega))
        exact HB3.out
      · exact Nat.le_trans HB3.out.size (by simp)
    clear c60 c61 c62 c90 c91 c92 f60 f61 f62 f90 f91 f92 hk6 hk9
    have hk6 := hk6'
    have hk9 := hk9'
    clear hk6' hk9' hb4 hb3
    have c60 : w4.cell? ⟨g6, 0, none⟩ = some (.int .u8 0) := hk6.cell 0
    have f60 : w4.frozen? ⟨g6, 0, none⟩ = false := hk6.frozen 0
    have c61 : w4.cell? ⟨g6, 1, none⟩ = some (.int .i64 0) := hk6.cell 1
    have f61 : w4.frozen? ⟨g6, 1, none⟩ = false := hk6.frozen 1
    have c62 : w4.cell? ⟨g6, 2, none⟩ = some (.string ⟨#[]⟩) := hk6.cell 2
    have f62 : w4.frozen? ⟨g6, 2, none⟩ = false := hk6.frozen 2
    have c90 : w4.cell? ⟨g6 + 1, 0, none⟩ = some (.int .u8 117) := hk9.cell 0
    have f90 : w4.frozen? ⟨g6 + 1, 0, none⟩ = false := hk9.frozen 0
    have c91 : w4.cell? ⟨g6 + 1, 1, none⟩ = some (.int .i64 x) := hk9.cell 1
    have f91 : w4.frozen? ⟨g6 + 1, 1, none⟩ = false := hk9.frozen 1
    have c92 : w4.cell? ⟨g6 + 1, 2, none⟩ = some (.string ⟨#[]⟩) := hk9.cell 2
    have f92 : w4.frozen? ⟨g6 + 1, 2, none⟩ = false := hk9.frozen 2
    clear hk6 hk9
    go_wp2_with fail
    refine bodyPost_ret (v := .tuple #[.agg #[.int .u8 117, .int .i64 x, .string ⟨#[]⟩], .int .i64 ((a : Int) + 4), .nilIface]) (by simp [results, Tryd.results42, go_sem, *]) rfl ?_
    refine ⟨x, ⟨#[]⟩, _, by first | (rw [HAE.out]; done) | (rw [HAE.out]; rfl), ?_, ?_⟩
    · intro _; exact ⟨by unfold argN; rw [if_neg (by omega), if_pos (by omega), HX.out], by unfold argS; rw [if_neg (by omega), if_neg (by omega)], by unfold argX; rw [if_neg (by omega)]; rfl⟩
    · repeat (refine below_set ?_ (by omega))
      exact HB4.out
  · obtain ⟨q, hq⟩ : ∃ q, q = getE bs a := ⟨_, rfl⟩
    have hv : getV bs a = 0 := by unfold getV; rw [if_neg he]
    have hae : argE 117 bs a = q := by unfold argE; rw [if_pos (by omega), hq]
    have hq2 := getE_le2 bs a
    rw [← hq] at he hq2
    have HQ := Lib.hid hq
    have HV := Lib.hid hv
    have HAE := Lib.hid hae
    have hq0 : 0 < q := by omega
    clear hq hv hae he
    refine (get_any A S v bs a w2 HS2.out HE2.out h1 h2).mono ?_
    rintro e w3 ⟨rfl, hb3⟩
    rw [HV.out, ← HQ.out, errV_pos A hq0]
    have HB3 := Lib.hid (HB2.out.trans (hb3.mono HB2.out.size))
    have hk6 := HK6.out.below hb3 HK6.out.lt
    have hk9 := HK9.out.below hb3 HK9.out.lt
    have c60 : w3.cell? ⟨g6, 0, none⟩ = some (.int .u8 0) := hk6.cell 0
    have f60 : w3.frozen? ⟨g6, 0, none⟩ = false := hk6.frozen 0
    have c61 : w3.cell? ⟨g6, 1, none⟩ = some (.int .i64 0) := hk6.cell 1
    have f61 : w3.frozen? ⟨g6, 1, none⟩ = false := hk6.frozen 1
    have c62 : w3.cell? ⟨g6, 2, none⟩ = some (.string ⟨#[]⟩) := hk6.cell 2
    have f62 : w3.frozen? ⟨g6, 2, none⟩ = false := hk6.frozen 2
    have c90 : w3.cell? ⟨g6 + 1, 0, none⟩ = some (.int .u8 117) := hk9.cell 0
    have f90 : w3.frozen? ⟨g6 + 1, 0, none⟩ = false := hk9.frozen 0
    have c91 : w3.cell? ⟨g6 + 1, 1, none⟩ = some (.int .i64 0) := hk9.cell 1
    have f91 : w3.frozen? ⟨g6 + 1, 1, none⟩ = false := hk9.frozen 1
    have c92 : w3.cell? ⟨g6 + 1, 2, none⟩ = some (.string ⟨#[]⟩) := hk9.cell 2
    have f92 : w3.frozen? ⟨g6 + 1, 2, none⟩ = false := hk9.frozen 2
    clear hb3 hk6 hk9
    go_wp2_with fail
    refine bodyPost_ret (v := .tuple #[.agg #[.int .u8 117, .int .i64 0, .string ⟨#[]⟩], .int .i64 ((a : Int) + 4), .iface 121 (.pointer (some (A q)))]) (by simp [results, Tryd.results42, go_sem, *]) rfl ?_
    refine ⟨0, ⟨#[]⟩, _, by first | (rw [HAE.out, errV_pos A hq0]; done) | (rw [HAE.out, errV_pos A hq0]; rfl), ?_, ?_⟩
    · intro hx; rw [HAE.out] at hx; omega
    · repeat (refine below_set ?_ (by omega))
      exact HB3.out
set_option linter.unusedVariables false in
set_option maxHeartbeats 1000000 in
theorem arg_111 (A : Nat → Addr) (S : List Nat) (h1 : 1 ∈ S) (h2 : 2 ∈ S) (h3 : 3 ∈ S) (h4 : 4 ∈ S) (v : Value) (bs : List UInt8) (a : Nat) (w : World) (h : Sl w w.heap.size v (bv bs)) (hE : Errs w w.heap.size S A) (ha : a ≤ bs.length) (hl : bs.length ≤ 1000000000) :
    Calls Tryd.prog 42 #[.int .u8 111, v, .int .i64 a] w (ArgPost A 111 bs a w) := by
  have HE := Lib.hid hE
  have HS := Lib.hid h
  have HA := Lib.hid ha
  have ha9 : (a : Int) ≤ 1000000000 := by omega
  obtain ⟨g6, hg6⟩ : ∃ g6, g6 = w.heap.size := ⟨_, rfl⟩
  have HG6 := Lib.hid hg6
  clear h ha hl hE
  go_enter Tryd.func42, Tryd.ntmps42
  go_wp2_with fail
  have hb2 : Below w.heap.size w ((w.alloc (.cells #[.int .u8 0, .int .i64 0, .string ⟨#[]⟩] 26)).alloc (.cells #[.int .u8 111, .int .i64 0, .string ⟨#[]⟩] 26)) := ((Below.refl _ _).alloc (Nat.le_refl _) _).alloc (by simp) _
  have hk6 : Blk ((w.alloc (.cells #[.int .u8 0, .int .i64 0, .string ⟨#[]⟩] 26)).alloc (.cells #[.int .u8 111, .int .i64 0, .string ⟨#[]⟩] 26)) w.heap.size 26 #[.int .u8 0, .int .i64 0, .string ⟨#[]⟩] := (Blk.new _ _ _).alloc _
  have hk9 : Blk ((w.alloc (.cells #[.int .u8 0, .int .i64 0, .string ⟨#[]⟩] 26)).alloc (.cells #[.int .u8 111, .int .i64 0, .string ⟨#[]⟩] 26)) (w.heap.size + 1) 26 #[.int .u8 111, .int .i64 0, .string ⟨#[]⟩] := by
    have := Blk.new (w.alloc (.cells #[.int .u8 0, .int .i64 0, .string ⟨#[]⟩] 26)) 26 #[.int .u8 111, .int .i64 0, .string ⟨#[]⟩]
    rwa [World.size_alloc] at this
  have HB2 := Lib.hid hb2
  rw [← hg6] at hk6 hk9 ⊢
  have HK6 := Lib.hid hk6
  have HK9 := Lib.hid hk9
  clear hb2 hk6 hk9 hg6
  generalize ((w.alloc (.cells #[.int .u8 0, .int .i64 0, .string ⟨#[]⟩] 26)).alloc (.cells #[.int .u8 111, .int .i64 0, .string ⟨#[]⟩] 26)) = w2 at HB2 HK6 HK9 ⊢
  have HS2 := Lib.hid ((HS.out.below HB2.out).more HB2.out.size)
  have hgw : w.heap.size ≤ g6 := by have := HG6.out; omega
  have HE2 := Lib.hid (HE.out.to HB2.out HB2.out.size)
  by_cases he : getE bs a = 0
  · have hlen : a + 4 ≤ bs.length := by unfold getE at he; split at he; omega; split at he; omega; omega
    obtain ⟨x0, x1⟩ := leV_bd bs a
    obtain ⟨x, hx⟩ : ∃ x, leV bs a = x := ⟨_, rfl⟩
    rw [hx] at x0 x1
    have HX := Lib.hid hx
    have HLEN := Lib.hid hlen
    have HQ := Lib.hid he
    clear hx hlen he
    skip
    have HAE : Hid (argE 111 bs a = 0) := by show _ = _; unfold argE; rw [if_pos (by omega), HQ.out]
    have HSZ : Hid ((⟨#[]⟩ : ByteArray).size ≤ 140737488351232) := by show (0 : Nat) ≤ _; omega
    have HSU : Hid (suchB 111 x ⟨#[]⟩ = true) := by show _ = _; unfold suchB suchI suchU suchN; simp <;> omega
    refine (hget_ok v bs a a rfl x HX.out w2 HS2.out HLEN.out).mono ?_
    rintro e w3 ⟨rfl, hb3⟩
    have HB3 := Lib.hid (HB2.out.trans (hb3.mono HB2.out.size))
    have hk6 := HK6.out.below hb3 HK6.out.lt
    have hk9 := HK9.out.below hb3 HK9.out.lt
    have c60 : w3.cell? ⟨g6, 0, none⟩ = some (.int .u8 0) := hk6.cell 0
    have f60 : w3.frozen? ⟨g6, 0, none⟩ = false := hk6.frozen 0
    have c61 : w3.cell? ⟨g6, 1, none⟩ = some (.int .i64 0) := hk6.cell 1
    have f61 : w3.frozen? ⟨g6, 1, none⟩ = false := hk6.frozen 1
    have c62 : w3.cell? ⟨g6, 2, none⟩ = some (.string ⟨#[]⟩) := hk6.cell 2
    have f62 : w3.frozen? ⟨g6, 2, none⟩ = false := hk6.frozen 2
    have c90 : w3.cell? ⟨g6 + 1, 0, none⟩ = some (.int .u8 111) := hk9.cell 0
    have f90 : w3.frozen? ⟨g6 + 1, 0, none⟩ = false := hk9.frozen 0
    have c91 : w3.cell? ⟨g6 + 1, 1, none⟩ = some (.int .i64 0) := hk9.cell 1
    have f91 : w3.frozen? ⟨g6 + 1, 1, none⟩ = false := hk9.frozen 1
    have c92 : w3.cell? ⟨g6 + 1, 2, none⟩ = some (.string ⟨#[]⟩) := hk9.cell 2
    have f92 : w3.frozen? ⟨g6 + 1, 2, none⟩ = false := hk9.frozen 2
    go_wp2_with fail
    refine (such_any 111 x ⟨#[]⟩ _ HSZ.out).mono ?_
    rintro e w4 ⟨rfl, hb4⟩
    rw [HSU.out]
    have hk9' := (hk9.set_ 1 _).below hb4 (hk9.set_ 1 _).lt
    have hk6' := (hk6.far (show g6 ≠ g6 + 1 by omega) _).below hb4 (hk6.far (show g6 ≠ g6 + 1 by omega) _).lt
    have HB4 : Hid (Below w.heap.size w w4) := by
      refine Below.trans ?_ (hb4.mono ?_)
      · repeat (refine below_set ?_ (by omega))
        exact HB3.out
      · exact Nat.le_trans HB3.out.size (by simp)
    clear c60 c61 c62 c90 c91 c92 f60 f61 f62 f90 f91 f92 hk6 hk9
    have hk6 := hk6'
    have hk9 := hk9'
    clear hk6' hk9' hb4 hb3
    have c60 : w4.cell? ⟨g6, 0, none⟩ = some (.int .u8 0) := hk6.cell 0
    have f60 : w4.frozen? ⟨g6, 0, none⟩ = false := hk6.frozen 0
    have c61 : w4.cell? ⟨g6, 1, none⟩ = some (.int .i64 0) := hk6.cell 1
    have f61 : w4.frozen? ⟨g6, 1, none⟩ = false := hk6.frozen 1
    have c62 : w4.cell? ⟨g6, 2, none⟩ = some (.string ⟨#[]⟩) := hk6.cell 2
    have f62 : w4.frozen? ⟨g6, 2, none⟩ = false := hk6.frozen 2
    have c90 : w4.cell? ⟨g6 + 1, 0, none⟩ = some (.int .u8 111) := hk9.cell 0
    have f90 : w4.frozen? ⟨g6 + 1, 0, none⟩ = false := hk9.frozen 0
    have c91 : w4.cell? ⟨g6 + 1, 1, none⟩ = some (.int .i64 x) := hk9.cell 1
    have f91 : w4.frozen? ⟨g6 + 1, 1, none⟩ = false := hk9.frozen 1
    have c92 : w4.cell? ⟨g6 + 1, 2, none⟩ = some (.string ⟨#[]⟩) := hk9.cell 2
    have f92 : w4.frozen? ⟨g6 + 1, 2, none⟩ = false := hk9.frozen 2
    clear hk6 hk9
    go_wp2_with fail
    refine bodyPost_ret (v := .tuple #[.agg #[.int .u8 111, .int .i64 x, .string ⟨#[]⟩], .int .i64 ((a : Int) + 4), .nilIface]) (by simp [results, Tryd.results42, go_sem, *]) rfl ?_
    refine ⟨x, ⟨#[]⟩, _, by first | (rw [HAE.out]; done) | (rw [HAE.out]; rfl), ?_, ?_⟩
    · intro _; exact ⟨by unfold argN; rw [if_neg (by omega), if_pos (by omega), HX.out], by unfold argS; rw [if_neg (by omega), if_neg (by omega)], by unfold argX; rw [if_neg (by omega)]; rfl⟩
    · repeat (refine below_set ?_ (by omega))
      exact HB4.out
  · obtain ⟨q, hq⟩ : ∃ q, q = getE bs a := ⟨_, rfl⟩
    have hv : getV bs a = 0 := by unfold getV; rw [if_neg he]
    have hae : argE 111 bs a = q := by unfold argE; rw [if_pos (by omega), hq]
    have hq2 := getE_le2 bs a
    rw [← hq] at he hq2
    have HQ := Lib.hid hq
    have HV := Lib.hid hv
    have HAE := Lib.hid hae
    have hq0 : 0 < q := by omega
    clear hq hv hae he
    refine (get_any A S v bs a w2 HS2.out HE2.out h1 h2).mono ?_
    rintro e w3 ⟨rfl, hb3⟩
    rw [HV.out, ← HQ.out, errV_pos A hq0]
    have HB3 := Lib.hid (HB2.out.trans (hb3.mono HB2.out.size))
    have hk6 := HK6.out.below hb3 HK6.out.lt
    have hk9 := HK9.out.below hb3 HK9.out.lt
    have c60 : w3.cell? ⟨g6, 0, none⟩ = some (.int .u8 0) := hk6.cell 0
    have f60 : w3.frozen? ⟨g6, 0, none⟩ = false := hk6.frozen 0
    have c61 : w3.cell? ⟨g6, 1, none⟩ = some (.int .i64 0) := hk6.cell 1
    have f61 : w3.frozen? ⟨g6, 1, none⟩ = false := hk6.frozen 1
    have c62 : w3.cell? ⟨g6, 2, none⟩ = some (.string ⟨#[]⟩) := hk6.cell 2
    have f62 : w3.frozen? ⟨g6, 2, none⟩ = false := hk6.frozen 2
    have c90 : w3.cell? ⟨g6 + 1, 0, none⟩ = some (.int .u8 111) := hk9.cell 0
    have f90 : w3.frozen? ⟨g6 + 1, 0, none⟩ = false := hk9.frozen 0
    have c91 : w3.cell? ⟨g6 + 1, 1, none⟩ = some (.int .i64 0) := hk9.cell 1
    have f91 : w3.frozen? ⟨g6 + 1, 1, none⟩ = false := hk9.frozen 1
    have c92 : w3.cell? ⟨g6 + 1, 2, none⟩ = some (.string ⟨#[]⟩) := hk9.cell 2
    have f92 : w3.frozen? ⟨g6 + 1, 2, none⟩ = false := hk9.frozen 2
    clear hb3 hk6 hk9
    go_wp2_with fail
    refine bodyPost_ret (v := .tuple #[.agg #[.int .u8 111, .int .i64 0, .string ⟨#[]⟩], .int .i64 ((a : Int) + 4), .iface 121 (.pointer (some (A q)))]) (by simp [results, Tryd.results42, go_sem, *]) rfl ?_
    refine ⟨0, ⟨#[]⟩, _, by first | (rw [HAE.out, errV_pos A hq0]; done) | (rw [HAE.out, errV_pos A hq0]; rfl), ?_, ?_⟩
    · intro hx; rw [HAE.out] at hx; omega
    · repeat (refine below_set ?_ (by omega))
      exact HB3.out
set_option linter.unusedVariables false in
set_option maxHeartbeats 1000000 in
theorem arg_110 (A : Nat → Addr) (S : List Nat) (h1 : 1 ∈ S) (h2 : 2 ∈ S) (h3 : 3 ∈ S) (h4 : 4 ∈ S) (v : Value) (bs : List UInt8) (a : Nat) (w : World) (h : Sl w w.heap.size v (bv bs)) (hE : Errs w w.heap.size S A) (ha : a ≤ bs.length) (hl : bs.length ≤ 1000000000) :
    Calls Tryd.prog 42 #[.int .u8 110, v, .int .i64 a] w (ArgPost A 110 bs a w) := by
  have HE := Lib.hid hE
  have HS := Lib.hid h
  have HA := Lib.hid ha
  have ha9 : (a : Int) ≤ 1000000000 := by omega
  obtain ⟨g6, hg6⟩ : ∃ g6, g6 = w.heap.size := ⟨_, rfl⟩
  have HG6 := Lib.hid hg6
  clear h ha hl hE
  go_enter Tryd.func42, Tryd.ntmps42
  go_wp2_with fail
  have hb2 : Below w.heap.size w ((w.alloc (.cells #[.int .u8 0, .int .i64 0, .string ⟨#[]⟩] 26)).alloc (.cells #[.int .u8 110, .int .i64 0, .string ⟨#[]⟩] 26)) := ((Below.refl _ _).alloc (Nat.le_refl _) _).alloc (by simp) _
  have hk6 : Blk ((w.alloc (.cells #[.int .u8 0, .int .i64 0, .string ⟨#[]⟩] 26)).alloc (.cells #[.int .u8 110, .int .i64 0, .string ⟨#[]⟩] 26)) w.heap.size 26 #[.int .u8 0, .int .i64 0, .string ⟨#[]⟩] := (Blk.new _ _ _).alloc _
  have hk9 : Blk ((w.alloc (.cells #[.int .u8 0, .int .i64 0, .string ⟨#[]⟩] 26)).alloc (.cells #[.int .u8 110, .int .i64 0, .string ⟨#[]⟩] 26)) (w.heap.size + 1) 26 #[.int .u8 110, .int .i64 0, .string ⟨#[]⟩] := by
    have := Blk.new (w.alloc (.cells #[.int .u8 0, .int .i64 0, .string ⟨#[]⟩] 26)) 26 #[.int .u8 110, .int .i64 0, .string ⟨#[]⟩]
    rwa [World.size_alloc] at this
  have HB2 := Lib.hid hb2
  rw [← hg6] at hk6 hk9 ⊢
  have HK6 := Lib.hid hk6
  have HK9 := Lib.hid hk9
  clear hb2 hk6 hk9 hg6
  generalize ((w.alloc (.cells #[.int .u8 0, .int .i64 0, .string ⟨#[]⟩] 26)).alloc (.cells #[.int .u8 110, .int .i64 0, .string ⟨#[]⟩] 26)) = w2 at HB2 HK6 HK9 ⊢
  have HS2 := Lib.hid ((HS.out.below HB2.out).more HB2.out.size)
  have hgw : w.heap.size ≤ g6 := by have := HG6.out; omega
  have HE2 := Lib.hid (HE.out.to HB2.out HB2.out.size)
  by_cases he : getE bs a = 0
  · have hlen : a + 4 ≤ bs.length := by unfold getE at he; split at he; omega; split at he; omega; omega
    obtain ⟨x0, x1⟩ := leV_bd bs a
    obtain ⟨x, hx⟩ : ∃ x, leV bs a = x := ⟨_, rfl⟩
    rw [hx] at x0 x1
    have HX := Lib.hid hx
    have HLEN := Lib.hid hlen
    have HQ := Lib.hid he
    clear hx hlen he
    by_cases hx3 : x = 0
    · subst hx3
      have HAE : Hid (argE 110 bs a = 3) := by show _ = _; unfold argE; rw [if_neg (by omega), if_pos rfl, if_neg (by rw [HQ.out]; omega), if_pos HX.out]
      have HSZ : Hid ((⟨#[]⟩ : ByteArray).size ≤ 140737488351232) := by show (0 : Nat) ≤ _; omega
      have HSU : Hid (suchB 110 0 ⟨#[]⟩ = false) := by show _ = _; unfold suchB suchI suchU suchN; simp <;> omega
      refine (hget_ok v bs a a rfl 0 HX.out w2 HS2.out HLEN.out).mono ?_
      rintro e w3 ⟨rfl, hb3⟩
      have HB3 := Lib.hid (HB2.out.trans (hb3.mono HB2.out.size))
      have hk6 := HK6.out.below hb3 HK6.out.lt
      have hk9 := HK9.out.below hb3 HK9.out.lt
      have c60 : w3.cell? ⟨g6, 0, none⟩ = some (.int .u8 0) := hk6.cell 0
      have f60 : w3.frozen? ⟨g6, 0, none⟩ = false := hk6.frozen 0
      have c61 : w3.cell? ⟨g6, 1, none⟩ = some (.int .i64 0) := hk6.cell 1
      have f61 : w3.frozen? ⟨g6, 1, none⟩ = false := hk6.frozen 1
      have c62 : w3.cell? ⟨g6, 2, none⟩ = some (.string ⟨#[]⟩) := hk6.cell 2
      have f62 : w3.frozen? ⟨g6, 2, none⟩ = false := hk6.frozen 2
      have c90 : w3.cell? ⟨g6 + 1, 0, none⟩ = some (.int .u8 110) := hk9.cell 0
      have f90 : w3.frozen? ⟨g6 + 1, 0, none⟩ = false := hk9.frozen 0
      have c91 : w3.cell? ⟨g6 + 1, 1, none⟩ = some (.int .i64 0) := hk9.cell 1
      have f91 : w3.frozen? ⟨g6 + 1, 1, none⟩ = false := hk9.frozen 1
      have c92 : w3.cell? ⟨g6 + 1, 2, none⟩ = some (.string ⟨#[]⟩) := hk9.cell 2
      have f92 : w3.frozen? ⟨g6 + 1, 2, none⟩ = false := hk9.frozen 2
      go_wp2_with fail
      refine (such_any 110 0 ⟨#[]⟩ _ HSZ.out).mono ?_
      rintro e w4 ⟨rfl, hb4⟩
      rw [HSU.out]
      have hk9' := (hk9.set_ 1 _).below hb4 (hk9.set_ 1 _).lt
      have hk6' := (hk6.far (show g6 ≠ g6 + 1 by omega) _).below hb4 (hk6.far (show g6 ≠ g6 + 1 by omega) _).lt
      have HB4 : Hid (Below w.heap.size w w4) := by
        refine Below.trans ?_ (hb4.mono ?_)
        · repeat (refine below_set ?_ (by omega))
          exact HB3.out
        · exact Nat.le_trans HB3.out.size (by simp)
      clear c60 c61 c62 c90 c91 c92 f60 f61 f62 f90 f91 f92 hk6 hk9
      have hk6 := hk6'
      have hk9 := hk9'
      clear hk6' hk9' hb4 hb3
      have c60 : w4.cell? ⟨g6, 0, none⟩ = some (.int .u8 0) := hk6.cell 0
      have f60 : w4.frozen? ⟨g6, 0, none⟩ = false := hk6.frozen 0
      have c61 : w4.cell? ⟨g6, 1, none⟩ = some (.int .i64 0) := hk6.cell 1
      have f61 : w4.frozen? ⟨g6, 1, none⟩ = false := hk6.frozen 1
      have c62 : w4.cell? ⟨g6, 2, none⟩ = some (.string ⟨#[]⟩) := hk6.cell 2
      have f62 : w4.frozen? ⟨g6, 2, none⟩ = false := hk6.frozen 2
      have c90 : w4.cell? ⟨g6 + 1, 0, none⟩ = some (.int .u8 110) := hk9.cell 0
      have f90 : w4.frozen? ⟨g6 + 1, 0, none⟩ = false := hk9.frozen 0
      have c91 : w4.cell? ⟨g6 + 1, 1, none⟩ = some (.int .i64 0) := hk9.cell 1
      have f91 : w4.frozen? ⟨g6 + 1, 1, none⟩ = false := hk9.frozen 1
      have c92 : w4.cell? ⟨g6 + 1, 2, none⟩ = some (.string ⟨#[]⟩) := hk9.cell 2
      have f92 : w4.frozen? ⟨g6 + 1, 2, none⟩ = false := hk9.frozen 2
      have cB := (HE.out.to HB4.out HB4.out.size).var h3
      have cB' : w4.cell? ⟨1, 0, none⟩ = some (.iface 121 (.pointer (some (A 3)))) := cB
      clear cB
      clear hk6 hk9
      go_wp2_with fail
      refine bodyPost_ret (v := .tuple #[.agg #[.int .u8 110, .int .i64 0, .string ⟨#[]⟩], .int .i64 ((a : Int) + 4), .iface 121 (.pointer (some (A 3)))]) (by simp [results, Tryd.results42, go_sem, *]) rfl ?_
      refine ⟨0, ⟨#[]⟩, _, by first | (rw [HAE.out]; done) | (rw [HAE.out]; rfl), ?_, ?_⟩
      · intro hx; rw [HAE.out] at hx; omega
      · repeat (refine below_set ?_ (by omega))
        exact HB4.out
    · have hx4 : 1 ≤ x := by omega
      have dx : (x == 0) = false := by simp; omega
      have HAE : Hid (argE 110 bs a = 0) := by show _ = _; unfold argE; rw [if_neg (by omega), if_pos rfl, if_neg (by rw [HQ.out]; omega), if_neg (by rw [HX.out]; omega)]
      have HSZ : Hid ((⟨#[]⟩ : ByteArray).size ≤ 140737488351232) := by show (0 : Nat) ≤ _; omega
      have HSU : Hid (suchB 110 x ⟨#[]⟩ = true) := by show _ = _; unfold suchB suchI suchU suchN; simp <;> omega
      refine (hget_ok v bs a a rfl x HX.out w2 HS2.out HLEN.out).mono ?_
      rintro e w3 ⟨rfl, hb3⟩
      have HB3 := Lib.hid (HB2.out.trans (hb3.mono HB2.out.size))
      have hk6 := HK6.out.below hb3 HK6.out.lt
      have hk9 := HK9.out.below hb3 HK9.out.lt
      have c60 : w3.cell? ⟨g6, 0, none⟩ = some (.int .u8 0) := hk6.cell 0
      have f60 : w3.frozen? ⟨g6, 0, none⟩ = false := hk6.frozen 0
      have c61 : w3.cell? ⟨g6, 1, none⟩ = some (.int .i64 0) := hk6.cell 1
      have f61 : w3.frozen? ⟨g6, 1, none⟩ = false := hk6.frozen 1
      have c62 : w3.cell? ⟨g6, 2, none⟩ = some (.string ⟨#[]⟩) := hk6.cell 2
      have f62 : w3.frozen? ⟨g6, 2, none⟩ = false := hk6.frozen 2
      have c90 : w3.cell? ⟨g6 + 1, 0, none⟩ = some (.int .u8 110) := hk9.cell 0
      have f90 : w3.frozen? ⟨g6 + 1, 0, none⟩ = false := hk9.frozen 0
      have c91 : w3.cell? ⟨g6 + 1, 1, none⟩ = some (.int .i64 0) := hk9.cell 1
      have f91 : w3.frozen? ⟨g6 + 1, 1, none⟩ = false := hk9.frozen 1
      have c92 : w3.cell? ⟨g6 + 1, 2, none⟩ = some (.string ⟨#[]⟩) := hk9.cell 2
      have f92 : w3.frozen? ⟨g6 + 1, 2, none⟩ = false := hk9.frozen 2
      go_wp2_with fail
      refine (such_any 110 x ⟨#[]⟩ _ HSZ.out).mono ?_
      rintro e w4 ⟨rfl, hb4⟩
      rw [HSU.out]
      have hk9' := (hk9.set_ 1 _).below hb4 (hk9.set_ 1 _).lt
      have hk6' := (hk6.far (show g6 ≠ g6 + 1 by omega) _).below hb4 (hk6.far (show g6 ≠ g6 + 1 by omega) _).lt
      have HB4 : Hid (Below w.heap.size w w4) := by
        refine Below.trans ?_ (hb4.mono ?_)
        · repeat (refine below_set ?_ (by omega))
          exact HB3.out
        · exact Nat.le_trans HB3.out.size (by simp)
      clear c60 c61 c62 c90 c91 c92 f60 f61 f62 f90 f91 f92 hk6 hk9
      have hk6 := hk6'
      have hk9 := hk9'
      clear hk6' hk9' hb4 hb3
      have c60 : w4.cell? ⟨g6, 0, none⟩ = some (.int .u8 0) := hk6.cell 0
      have f60 : w4.frozen? ⟨g6, 0, none⟩ = false := hk6.frozen 0
      have c61 : w4.cell? ⟨g6, 1, none⟩ = some (.int .i64 0) := hk6.cell 1
      have f61 : w4.frozen? ⟨g6, 1, none⟩ = false := hk6.frozen 1
      have c62 : w4.cell? ⟨g6, 2, none⟩ = some (.string ⟨#[]⟩) := hk6.cell 2
      have f62 : w4.frozen? ⟨g6, 2, none⟩ = false := hk6.frozen 2
      have c90 : w4.cell? ⟨g6 + 1, 0, none⟩ = some (.int .u8 110) := hk9.cell 0
      have f90 : w4.frozen? ⟨g6 + 1, 0, none⟩ = false := hk9.frozen 0
      have c91 : w4.cell? ⟨g6 + 1, 1, none⟩ = some (.int .i64 x) := hk9.cell 1
      have f91 : w4.frozen? ⟨g6 + 1, 1, none⟩ = false := hk9.frozen 1
      have c92 : w4.cell? ⟨g6 + 1, 2, none⟩ = some (.string ⟨#[]⟩) := hk9.cell 2
      have f92 : w4.frozen? ⟨g6 + 1, 2, none⟩ = false := hk9.frozen 2
      clear hk6 hk9
      go_wp2_with fail
      refine bodyPost_ret (v := .tuple #[.agg #[.int .u8 110, .int .i64 x, .string ⟨#[]⟩], .int .i64 ((a : Int) + 4), .nilIface]) (by simp [results, Tryd.results42, go_sem, *]) rfl ?_
      refine ⟨x, ⟨#[]⟩, _, by first | (rw [HAE.out]; done) | (rw [HAE.out]; rfl), ?_, ?_⟩
      · intro _; exact ⟨by unfold argN; rw [if_neg (by omega), if_pos (by omega), HX.out], by unfold argS; rw [if_neg (by omega), if_neg (by omega)], by unfold argX; rw [if_neg (by omega)]; rfl⟩
      · repeat (refine below_set ?_ (by omega))
        exact HB4.out
  · obtain ⟨q, hq⟩ : ∃ q, q = getE bs a := ⟨_, rfl⟩
    have hv : getV bs a = 0 := by unfold getV; rw [if_neg he]
    have hae : argE 110 bs a = q := by unfold argE; rw [if_neg (by omega), if_pos rfl, if_pos he, hq]
    have hq2 := getE_le2 bs a
    rw [← hq] at he hq2
    have HQ := Lib.hid hq
    have HV := Lib.hid hv
    have HAE := Lib.hid hae
    have hq0 : 0 < q := by omega
    clear hq hv hae he
    refine (get_any A S v bs a w2 HS2.out HE2.out h1 h2).mono ?_
    rintro e w3 ⟨rfl, hb3⟩
    rw [HV.out, ← HQ.out, errV_pos A hq0]
    have HB3 := Lib.hid (HB2.out.trans (hb3.mono HB2.out.size))
    have hk6 := HK6.out.below hb3 HK6.out.lt
    have hk9 := HK9.out.below hb3 HK9.out.lt
    have c60 : w3.cell? ⟨g6, 0, none⟩ = some (.int .u8 0) := hk6.cell 0
    have f60 : w3.frozen? ⟨g6, 0, none⟩ = false := hk6.frozen 0
    have c61 : w3.cell? ⟨g6, 1, none⟩ = some (.int .i64 0) := hk6.cell 1
    have f61 : w3.frozen? ⟨g6, 1, none⟩ = false := hk6.frozen 1
    have c62 : w3.cell? ⟨g6, 2, none⟩ = some (.string ⟨#[]⟩) := hk6.cell 2
    have f62 : w3.frozen? ⟨g6, 2, none⟩ = false := hk6.frozen 2
    have c90 : w3.cell? ⟨g6 + 1, 0, none⟩ = some (.int .u8 110) := hk9.cell 0
    have f90 : w3.frozen? ⟨g6 + 1, 0, none⟩ = false := hk9.frozen 0
    have c91 : w3.cell? ⟨g6 + 1, 1, none⟩ = some (.int .i64 0) := hk9.cell 1
    have f91 : w3.frozen? ⟨g6 + 1, 1, none⟩ = false := hk9.frozen 1
    have c92 : w3.cell? ⟨g6 + 1, 2, none⟩ = some (.string ⟨#[]⟩) := hk9.cell 2
    have f92 : w3.frozen? ⟨g6 + 1, 2, none⟩ = false := hk9.frozen 2
    clear hb3 hk6 hk9
    go_wp2_with fail
    refine bodyPost_ret (v := .tuple #[.agg #[.int .u8 110, .int .i64 0, .string ⟨#[]⟩], .int .i64 ((a : Int) + 4), .iface 121 (.pointer (some (A q)))]) (by simp [results, Tryd.results42, go_sem, *]) rfl ?_
    refine ⟨0, ⟨#[]⟩, _, by first | (rw [HAE.out, errV_pos A hq0]; done) | (rw [HAE.out, errV_pos A hq0]; rfl), ?_, ?_⟩
    · intro hx; rw [HAE.out] at hx; omega
    · repeat (refine below_set ?_ (by omega))
      exact HB3.out
set_option linter.unusedVariables false in
set_option maxHeartbeats 1000000 in
theorem arg_115 (A : Nat → Addr) (S : List Nat) (h1 : 1 ∈ S) (h2 : 2 ∈ S) (h3 : 3 ∈ S) (h4 : 4 ∈ S) (v : Value) (bs : List UInt8) (a : Nat) (w : World) (h : Sl w w.heap.size v (bv bs)) (hE : Errs w w.heap.size S A) (ha : a ≤ bs.length) (hl : bs.length ≤ 1000000000) :
    Calls Tryd.prog 42 #[.int .u8 115, v, .int .i64 a] w (ArgPost A 115 bs a w) := by
  have HE := Lib.hid hE
  have HS := Lib.hid h
  have HA := Lib.hid ha
  have ha9 : (a : Int) ≤ 1000000000 := by omega
  obtain ⟨g6, hg6⟩ : ∃ g6, g6 = w.heap.size := ⟨_, rfl⟩
  have HG6 := Lib.hid hg6
  clear h ha hl hE
  go_enter Tryd.func42, Tryd.ntmps42
  go_wp2_with fail
  have hb2 : Below w.heap.size w ((w.alloc (.cells #[.int .u8 0, .int .i64 0, .string ⟨#[]⟩] 26)).alloc (.cells #[.int .u8 115, .int .i64 0, .string ⟨#[]⟩] 26)) := ((Below.refl _ _).alloc (Nat.le_refl _) _).alloc (by simp) _
  have hk6 : Blk ((w.alloc (.cells #[.int .u8 0, .int .i64 0, .string ⟨#[]⟩] 26)).alloc (.cells #[.int .u8 115, .int .i64 0, .string ⟨#[]⟩] 26)) w.heap.size 26 #[.int .u8 0, .int .i64 0, .string ⟨#[]⟩] := (Blk.new _ _ _).alloc _
  have hk9 : Blk ((w.alloc (.cells #[.int .u8 0, .int .i64 0, .string ⟨#[]⟩] 26)).alloc (.cells #[.int .u8 115, .int .i64 0, .string ⟨#[]⟩] 26)) (w.heap.size + 1) 26 #[.int .u8 115, .int .i64 0, .string ⟨#[]⟩] := by
    have := Blk.new (w.alloc (.cells #[.int .u8 0, .int .i64 0, .string ⟨#[]⟩] 26)) 26 #[.int .u8 115, .int .i64 0, .string ⟨#[]⟩]
    rwa [World.size_alloc] at this
  have HB2 := Lib.hid hb2
  rw [← hg6] at hk6 hk9 ⊢
  have HK6 := Lib.hid hk6
  have HK9 := Lib.hid hk9
  clear hb2 hk6 hk9 hg6
  generalize ((w.alloc (.cells #[.int .u8 0, .int .i64 0, .string ⟨#[]⟩] 26)).alloc (.cells #[.int .u8 115, .int .i64 0, .string ⟨#[]⟩] 26)) = w2 at HB2 HK6 HK9 ⊢
  have HS2 := Lib.hid ((HS.out.below HB2.out).more HB2.out.size)
  have hgw : w.heap.size ≤ g6 := by have := HG6.out; omega
  have HE2 := Lib.hid (HE.out.to HB2.out HB2.out.size)
  by_cases he : textE bs a = 0
  · have hres : textR A bs a = .tuple #[.string (strB (gotS bs a).dropLast), .int .i64 (gotN bs a), .nilIface] := by unfold textR; rw [if_pos he]
    have HRES := Lib.hid hres
    have hs96 : (gotS bs a).dropLast.length ≤ 4096 := by
      have := (gotS_length bs a 1 (by unfold textE at he; split at he <;> omega)).2.2.1
      rw [List.length_dropLast]; omega
    obtain ⟨s, hs⟩ : ∃ s, s = strB (gotS bs a).dropLast := ⟨_, rfl⟩
    have hsz : s.size = (gotS bs a).dropLast.length := by rw [hs, strB_size]
    rw [← hsz] at hs96
    rw [← hs] at HRES
    have HS9 := Lib.hid hs
    have HSZL := Lib.hid hsz
    have HQ := Lib.hid he
    obtain ⟨nx, hnx⟩ : ∃ nx, nx = gotN bs a := ⟨_, rfl⟩
    rw [← hnx] at HRES
    have HNX := Lib.hid hnx
    have HSZ : Hid (s.size ≤ 140737488351232) := by show _ ≤ _; omega
    have hz : Lib.indexByte s.data.toList 0 < 0 := by
      rw [hs, strB_toList]
      have hl := (gotS_length bs a 1 (by unfold textE at he; split at he <;> omega)).2.1
      have hok : textOk (gotS bs a) := by unfold textE at he; split at he; omega; split at he; assumption; omega
      obtain ⟨a2, e2, e3⟩ := textOk_last (gotS bs a) (by intro h0; rw [h0] at hl; simp at hl) hok
      rw [e2, List.dropLast_concat, indexByte_none a2 e3]; omega
    have HZ := Lib.hid hz
    clear hz
    clear hres hs hsz he hnx
    by_cases h200 : s.size ≤ 200
    · skip
      have h200 : s.size ≤ 200 := by omega
      have HAE : Hid (argE 115 bs a = 0) := by show _ = _; unfold argE; rw [if_neg (by omega), if_neg (by omega), if_pos rfl, if_neg (by rw [HQ.out]; omega), if_neg (by rw [← HSZL.out]; omega)]
      have HSU : Hid (suchB 115 0 s = true) := by show _ = _; unfold suchB suchS suchA; simp; exact ⟨by omega, HZ.out⟩
      refine (getText_any A S v bs a w2 HS2.out HE2.out h1 h2 h3 h4).mono ?_
      rintro e w3 ⟨rfl, hb3⟩
      rw [HRES.out]
      have HB3 := Lib.hid (HB2.out.trans (hb3.mono HB2.out.size))
      have hk6 := HK6.out.below hb3 HK6.out.lt
      have hk9 := HK9.out.below hb3 HK9.out.lt
      have c60 : w3.cell? ⟨g6, 0, none⟩ = some (.int .u8 0) := hk6.cell 0
      have f60 : w3.frozen? ⟨g6, 0, none⟩ = false := hk6.frozen 0
      have c61 : w3.cell? ⟨g6, 1, none⟩ = some (.int .i64 0) := hk6.cell 1
      have f61 : w3.frozen? ⟨g6, 1, none⟩ = false := hk6.frozen 1
      have c62 : w3.cell? ⟨g6, 2, none⟩ = some (.string ⟨#[]⟩) := hk6.cell 2
      have f62 : w3.frozen? ⟨g6, 2, none⟩ = false := hk6.frozen 2
      have c90 : w3.cell? ⟨g6 + 1, 0, none⟩ = some (.int .u8 115) := hk9.cell 0
      have f90 : w3.frozen? ⟨g6 + 1, 0, none⟩ = false := hk9.frozen 0
      have c91 : w3.cell? ⟨g6 + 1, 1, none⟩ = some (.int .i64 0) := hk9.cell 1
      have f91 : w3.frozen? ⟨g6 + 1, 1, none⟩ = false := hk9.frozen 1
      have c92 : w3.cell? ⟨g6 + 1, 2, none⟩ = some (.string ⟨#[]⟩) := hk9.cell 2
      have f92 : w3.frozen? ⟨g6 + 1, 2, none⟩ = false := hk9.frozen 2
      go_wp2_with fail
      refine (such_any 115 0 s _ HSZ.out).mono ?_
      rintro e w4 ⟨rfl, hb4⟩
      rw [HSU.out]
      have hk9' := (hk9.set_ 2 _).below hb4 (hk9.set_ 2 _).lt
      have hk6' := (hk6.far (show g6 ≠ g6 + 1 by omega) _).below hb4 (hk6.far (show g6 ≠ g6 + 1 by omega) _).lt
      have HB4 : Hid (Below w.heap.size w w4) := by
        refine Below.trans ?_ (hb4.mono ?_)
        · repeat (refine below_set ?_ (by omega))
          exact HB3.out
        · exact Nat.le_trans HB3.out.size (by simp)
      clear c60 c61 c62 c90 c91 c92 f60 f61 f62 f90 f91 f92 hk6 hk9
      have hk6 := hk6'
      have hk9 := hk9'
      clear hk6' hk9' hb4 hb3
      have c60 : w4.cell? ⟨g6, 0, none⟩ = some (.int .u8 0) := hk6.cell 0
      have f60 : w4.frozen? ⟨g6, 0, none⟩ = false := hk6.frozen 0
      have c61 : w4.cell? ⟨g6, 1, none⟩ = some (.int .i64 0) := hk6.cell 1
      have f61 : w4.frozen? ⟨g6, 1, none⟩ = false := hk6.frozen 1
      have c62 : w4.cell? ⟨g6, 2, none⟩ = some (.string ⟨#[]⟩) := hk6.cell 2
      have f62 : w4.frozen? ⟨g6, 2, none⟩ = false := hk6.frozen 2
      have c90 : w4.cell? ⟨g6 + 1, 0, none⟩ = some (.int .u8 115) := hk9.cell 0
      have f90 : w4.frozen? ⟨g6 + 1, 0, none⟩ = false := hk9.frozen 0
      have c91 : w4.cell? ⟨g6 + 1, 1, none⟩ = some (.int .i64 0) := hk9.cell 1
      have f91 : w4.frozen? ⟨g6 + 1, 1, none⟩ = false := hk9.frozen 1
      have c92 : w4.cell? ⟨g6 + 1, 2, none⟩ = some (.string s) := hk9.cell 2
      have f92 : w4.frozen? ⟨g6 + 1, 2, none⟩ = false := hk9.frozen 2
      clear hk6 hk9
      go_wp2_with fail
      refine bodyPost_ret (v := .tuple #[.agg #[.int .u8 115, .int .i64 0, .string s], .int .i64 nx, .nilIface]) (by simp [results, Tryd.results42, go_sem, *]) rfl ?_
      refine ⟨0, s, _, by first | (rw [HAE.out]; done) | (rw [HAE.out]; rfl), ?_, ?_⟩
      · intro _; exact ⟨by unfold argN; rw [if_neg (by omega), if_neg (by omega)], by unfold argS; rw [if_pos rfl, HS9.out], by unfold argX; rw [if_pos (by omega), HNX.out]⟩
      · repeat (refine below_set ?_ (by omega))
        exact HB4.out
    · skip
      have h200 : 200 < s.size := by omega
      have HAE : Hid (argE 115 bs a = 3) := by show _ = _; unfold argE; rw [if_neg (by omega), if_neg (by omega), if_pos rfl, if_neg (by rw [HQ.out]; omega), if_pos (by rw [← HSZL.out]; omega)]
      have HSU : Hid (suchB 115 0 s = false) := by show _ = _; unfold suchB suchS suchA; simp; omega
      refine (getText_any A S v bs a w2 HS2.out HE2.out h1 h2 h3 h4).mono ?_
      rintro e w3 ⟨rfl, hb3⟩
      rw [HRES.out]
      have HB3 := Lib.hid (HB2.out.trans (hb3.mono HB2.out.size))
      have hk6 := HK6.out.below hb3 HK6.out.lt
      have hk9 := HK9.out.below hb3 HK9.out.lt
      have c60 : w3.cell? ⟨g6, 0, none⟩ = some (.int .u8 0) := hk6.cell 0
      have f60 : w3.frozen? ⟨g6, 0, none⟩ = false := hk6.frozen 0
      have c61 : w3.cell? ⟨g6, 1, none⟩ = some (.int .i64 0) := hk6.cell 1
      have f61 : w3.frozen? ⟨g6, 1, none⟩ = false := hk6.frozen 1
      have c62 : w3.cell? ⟨g6, 2, none⟩ = some (.string ⟨#[]⟩) := hk6.cell 2
      have f62 : w3.frozen? ⟨g6, 2, none⟩ = false := hk6.frozen 2
      have c90 : w3.cell? ⟨g6 + 1, 0, none⟩ = some (.int .u8 115) := hk9.cell 0
      have f90 : w3.frozen? ⟨g6 + 1, 0, none⟩ = false := hk9.frozen 0
      have c91 : w3.cell? ⟨g6 + 1, 1, none⟩ = some (.int .i64 0) := hk9.cell 1
      have f91 : w3.frozen? ⟨g6 + 1, 1, none⟩ = false := hk9.frozen 1
      have c92 : w3.cell? ⟨g6 + 1, 2, none⟩ = some (.string ⟨#[]⟩) := hk9.cell 2
      have f92 : w3.frozen? ⟨g6 + 1, 2, none⟩ = false := hk9.frozen 2
      go_wp2_with fail
      refine (such_any 115 0 s _ HSZ.out).mono ?_
      rintro e w4 ⟨rfl, hb4⟩
      rw [HSU.out]
      have hk9' := (hk9.set_ 2 _).below hb4 (hk9.set_ 2 _).lt
      have hk6' := (hk6.far (show g6 ≠ g6 + 1 by omega) _).below hb4 (hk6.far (show g6 ≠ g6 + 1 by omega) _).lt
      have HB4 : Hid (Below w.heap.size w w4) := by
        refine Below.trans ?_ (hb4.mono ?_)
        · repeat (refine below_set ?_ (by omega))
          exact HB3.out
        · exact Nat.le_trans HB3.out.size (by simp)
      clear c60 c61 c62 c90 c91 c92 f60 f61 f62 f90 f91 f92 hk6 hk9
      have hk6 := hk6'
      have hk9 := hk9'
      clear hk6' hk9' hb4 hb3
      have c60 : w4.cell? ⟨g6, 0, none⟩ = some (.int .u8 0) := hk6.cell 0
      have f60 : w4.frozen? ⟨g6, 0, none⟩ = false := hk6.frozen 0
      have c61 : w4.cell? ⟨g6, 1, none⟩ = some (.int .i64 0) := hk6.cell 1
      have f61 : w4.frozen? ⟨g6, 1, none⟩ = false := hk6.frozen 1
      have c62 : w4.cell? ⟨g6, 2, none⟩ = some (.string ⟨#[]⟩) := hk6.cell 2
      have f62 : w4.frozen? ⟨g6, 2, none⟩ = false := hk6.frozen 2
      have c90 : w4.cell? ⟨g6 + 1, 0, none⟩ = some (.int .u8 115) := hk9.cell 0
      have f90 : w4.frozen? ⟨g6 + 1, 0, none⟩ = false := hk9.frozen 0
      have c91 : w4.cell? ⟨g6 + 1, 1, none⟩ = some (.int .i64 0) := hk9.cell 1
      have f91 : w4.frozen? ⟨g6 + 1, 1, none⟩ = false := hk9.frozen 1
      have c92 : w4.cell? ⟨g6 + 1, 2, none⟩ = some (.string s) := hk9.cell 2
      have f92 : w4.frozen? ⟨g6 + 1, 2, none⟩ = false := hk9.frozen 2
      have cB := (HE.out.to HB4.out HB4.out.size).var h3
      have cB' : w4.cell? ⟨1, 0, none⟩ = some (.iface 121 (.pointer (some (A 3)))) := cB
      clear cB
      clear hk6 hk9
      go_wp2_with fail
      refine bodyPost_ret (v := .tuple #[.agg #[.int .u8 115, .int .i64 0, .string s], .int .i64 nx, .iface 121 (.pointer (some (A 3)))]) (by simp [results, Tryd.results42, go_sem, *]) rfl ?_
      refine ⟨0, s, _, by first | (rw [HAE.out]; done) | (rw [HAE.out]; rfl), ?_, ?_⟩
      · intro hx; rw [HAE.out] at hx; omega
      · repeat (refine below_set ?_ (by omega))
        exact HB4.out
  · obtain ⟨q, hq⟩ : ∃ q, q = textE bs a := ⟨_, rfl⟩
    have hae : argE 115 bs a = q := by unfold argE; rw [if_neg (by omega), if_neg (by omega), if_pos rfl, if_pos he, hq]
    have hres : textR A bs a = .tuple #[.string (strB []), .int .i64 0, errV A q] := by unfold textR; rw [if_neg he, hq]
    rw [← hq] at he
    have HAE := Lib.hid hae
    have HRES := Lib.hid hres
    have hq0 : 0 < q := by omega
    have hq4 : q ≤ 4 := by rw [hq]; exact textE_le bs a
    clear hq hae he hres
    refine (getText_any A S v bs a w2 HS2.out HE2.out h1 h2 h3 h4).mono ?_
    rintro e w3 ⟨rfl, hb3⟩
    rw [HRES.out, errV_pos A hq0]
    have HB3 := Lib.hid (HB2.out.trans (hb3.mono HB2.out.size))
    have hk6 := HK6.out.below hb3 HK6.out.lt
    have hk9 := HK9.out.below hb3 HK9.out.lt
    have c60 : w3.cell? ⟨g6, 0, none⟩ = some (.int .u8 0) := hk6.cell 0
    have f60 : w3.frozen? ⟨g6, 0, none⟩ = false := hk6.frozen 0
    have c61 : w3.cell? ⟨g6, 1, none⟩ = some (.int .i64 0) := hk6.cell 1
    have f61 : w3.frozen? ⟨g6, 1, none⟩ = false := hk6.frozen 1
    have c62 : w3.cell? ⟨g6, 2, none⟩ = some (.string ⟨#[]⟩) := hk6.cell 2
    have f62 : w3.frozen? ⟨g6, 2, none⟩ = false := hk6.frozen 2
    have c90 : w3.cell? ⟨g6 + 1, 0, none⟩ = some (.int .u8 115) := hk9.cell 0
    have f90 : w3.frozen? ⟨g6 + 1, 0, none⟩ = false := hk9.frozen 0
    have c91 : w3.cell? ⟨g6 + 1, 1, none⟩ = some (.int .i64 0) := hk9.cell 1
    have f91 : w3.frozen? ⟨g6 + 1, 1, none⟩ = false := hk9.frozen 1
    have c92 : w3.cell? ⟨g6 + 1, 2, none⟩ = some (.string ⟨#[]⟩) := hk9.cell 2
    have f92 : w3.frozen? ⟨g6 + 1, 2, none⟩ = false := hk9.frozen 2
    clear hb3 hk6 hk9
    go_wp2_with fail
    refine bodyPost_ret (v := .tuple #[.agg #[.int .u8 115, .int .i64 0, .string (strB [])], .int .i64 0, .iface 121 (.pointer (some (A q)))]) (by simp [results, Tryd.results42, go_sem, *]) rfl ?_
    refine ⟨0, _, _, by first | (rw [HAE.out, errV_pos A hq0]; done) | (rw [HAE.out, errV_pos A hq0]; rfl), ?_, ?_⟩
    · intro hx; rw [HAE.out] at hx; omega
    · repeat (refine below_set ?_ (by omega))
      exact HB3.out
set_option linter.unusedVariables false in
set_option maxHeartbeats 1000000 in
theorem arg_97 (A : Nat → Addr) (S : List Nat) (h1 : 1 ∈ S) (h2 : 2 ∈ S) (h3 : 3 ∈ S) (h4 : 4 ∈ S) (v : Value) (bs : List UInt8) (a : Nat) (w : World) (h : Sl w w.heap.size v (bv bs)) (hE : Errs w w.heap.size S A) (ha : a ≤ bs.length) (hl : bs.length ≤ 1000000000) :
    Calls Tryd.prog 42 #[.int .u8 97, v, .int .i64 a] w (ArgPost A 97 bs a w) := by
  have HE := Lib.hid hE
  have HS := Lib.hid h
  have HA := Lib.hid ha
  have ha9 : (a : Int) ≤ 1000000000 := by omega
  obtain ⟨g6, hg6⟩ : ∃ g6, g6 = w.heap.size := ⟨_, rfl⟩
  have HG6 := Lib.hid hg6
  clear h ha hl hE
  go_enter Tryd.func42, Tryd.ntmps42
  go_wp2_with fail
  have hb2 : Below w.heap.size w ((w.alloc (.cells #[.int .u8 0, .int .i64 0, .string ⟨#[]⟩] 26)).alloc (.cells #[.int .u8 97, .int .i64 0, .string ⟨#[]⟩] 26)) := ((Below.refl _ _).alloc (Nat.le_refl _) _).alloc (by simp) _
  have hk6 : Blk ((w.alloc (.cells #[.int .u8 0, .int .i64 0, .string ⟨#[]⟩] 26)).alloc (.cells #[.int .u8 97, .int .i64 0, .string ⟨#[]⟩] 26)) w.heap.size 26 #[.int .u8 0, .int .i64 0, .string ⟨#[]⟩] := (Blk.new _ _ _).alloc _
  have hk9 : Blk ((w.alloc (.cells #[.int .u8 0, .int .i64 0, .string ⟨#[]⟩] 26)).alloc (.cells #[.int .u8 97, .int .i64 0, .string ⟨#[]⟩] 26)) (w.heap.size + 1) 26 #[.int .u8 97, .int .i64 0, .string ⟨#[]⟩] := by
    have := Blk.new (w.alloc (.cells #[.int .u8 0, .int .i64 0, .string ⟨#[]⟩] 26)) 26 #[.int .u8 97, .int .i64 0, .string ⟨#[]⟩]
    rwa [World.size_alloc] at this
  have HB2 := Lib.hid hb2
  rw [← hg6] at hk6 hk9 ⊢
  have HK6 := Lib.hid hk6
  have HK9 := Lib.hid hk9
  clear hb2 hk6 hk9 hg6
  generalize ((w.alloc (.cells #[.int .u8 0, .int .i64 0, .string ⟨#[]⟩] 26)).alloc (.cells #[.int .u8 97, .int .i64 0, .string ⟨#[]⟩] 26)) = w2 at HB2 HK6 HK9 ⊢
  have HS2 := Lib.hid ((HS.out.below HB2.out).more HB2.out.size)
  have hgw : w.heap.size ≤ g6 := by have := HG6.out; omega
  have HE2 := Lib.hid (HE.out.to HB2.out HB2.out.size)
  by_cases he : gotE bs a 0 = 0
  · have hres : gotR A bs a 0 = .tuple #[.string (strB (gotS bs a)), .int .i64 (gotN bs a), .nilIface] := by unfold gotR; rw [if_pos he]
    have HRES := Lib.hid hres
    have hs96 : (gotS bs a).length ≤ 4096 := by
      have := (gotS_length bs a 0 he).2.2.1
      exact this
    obtain ⟨s, hs⟩ : ∃ s, s = strB (gotS bs a) := ⟨_, rfl⟩
    have hsz : s.size = (gotS bs a).length := by rw [hs, strB_size]
    rw [← hsz] at hs96
    rw [← hs] at HRES
    have HS9 := Lib.hid hs
    have HSZL := Lib.hid hsz
    have HQ := Lib.hid he
    obtain ⟨nx, hnx⟩ : ∃ nx, nx = gotN bs a := ⟨_, rfl⟩
    rw [← hnx] at HRES
    have HNX := Lib.hid hnx
    have HSZ : Hid (s.size ≤ 140737488351232) := by show _ ≤ _; omega
    clear hres hs hsz he hnx
    by_cases h200 : s.size ≤ 200
    · skip
      have h200 : s.size ≤ 200 := by omega
      have HAE : Hid (argE 97 bs a = 0) := by show _ = _; unfold argE; rw [if_neg (by omega), if_neg (by omega), if_neg (by omega), if_pos rfl, if_neg (by rw [HQ.out]; omega), if_neg (by rw [← HSZL.out]; omega)]
      have HSU : Hid (suchB 97 0 s = true) := by show _ = _; unfold suchB suchS suchA; simp; omega
      refine (getList_any A S v bs a w2 HS2.out HE2.out h1 h2 h3 h4).mono ?_
      rintro e w3 ⟨rfl, hb3⟩
      rw [HRES.out]
      have HB3 := Lib.hid (HB2.out.trans (hb3.mono HB2.out.size))
      have hk6 := HK6.out.below hb3 HK6.out.lt
      have hk9 := HK9.out.below hb3 HK9.out.lt
      have c60 : w3.cell? ⟨g6, 0, none⟩ = some (.int .u8 0) := hk6.cell 0
      have f60 : w3.frozen? ⟨g6, 0, none⟩ = false := hk6.frozen 0
      have c61 : w3.cell? ⟨g6, 1, none⟩ = some (.int .i64 0) := hk6.cell 1
      have f61 : w3.frozen? ⟨g6, 1, none⟩ = false := hk6.frozen 1
      have c62 : w3.cell? ⟨g6, 2, none⟩ = some (.string ⟨#[]⟩) := hk6.cell 2
      have f62 : w3.frozen? ⟨g6, 2, none⟩ = false := hk6.frozen 2
      have c90 : w3.cell? ⟨g6 + 1, 0, none⟩ = some (.int .u8 97) := hk9.cell 0
      have f90 : w3.frozen? ⟨g6 + 1, 0, none⟩ = false := hk9.frozen 0
      have c91 : w3.cell? ⟨g6 + 1, 1, none⟩ = some (.int .i64 0) := hk9.cell 1
      have f91 : w3.frozen? ⟨g6 + 1, 1, none⟩ = false := hk9.frozen 1
      have c92 : w3.cell? ⟨g6 + 1, 2, none⟩ = some (.string ⟨#[]⟩) := hk9.cell 2
      have f92 : w3.frozen? ⟨g6 + 1, 2, none⟩ = false := hk9.frozen 2
      go_wp2_with fail
      refine (such_any 97 0 s _ HSZ.out).mono ?_
      rintro e w4 ⟨rfl, hb4⟩
      rw [HSU.out]
      have hk9' := (hk9.set_ 2 _).below hb4 (hk9.set_ 2 _).lt
      have hk6' := (hk6.far (show g6 ≠ g6 + 1 by omega) _).below hb4 (hk6.far (show g6 ≠ g6 + 1 by omega) _).lt
      have HB4 : Hid (Below w.heap.size w w4) := by
        refine Below.trans ?_ (hb4.mono ?_)
        · repeat (refine below_set ?_ (by omega))
          exact HB3.out
        · exact Nat.le_trans HB3.out.size (by simp)
      clear c60 c61 c62 c90 c91 c92 f60 f61 f62 f90 f91 f92 hk6 hk9
      have hk6 := hk6'
      have hk9 := hk9'
      clear hk6' hk9' hb4 hb3
      have c60 : w4.cell? ⟨g6, 0, none⟩ = some (.int .u8 0) := hk6.cell 0
      have f60 : w4.frozen? ⟨g6, 0, none⟩ = false := hk6.frozen 0
      have c61 : w4.cell? ⟨g6, 1, none⟩ = some (.int .i64 0) := hk6.cell 1
      have f61 : w4.frozen? ⟨g6, 1, none⟩ = false := hk6.frozen 1
      have c62 : w4.cell? ⟨g6, 2, none⟩ = some (.string ⟨#[]⟩) := hk6.cell 2
      have f62 : w4.frozen? ⟨g6, 2, none⟩ = false := hk6.frozen 2
      have c90 : w4.cell? ⟨g6 + 1, 0, none⟩ = some (.int .u8 97) := hk9.cell 0
      have f90 : w4.frozen? ⟨g6 + 1, 0, none⟩ = false := hk9.frozen 0
      have c91 : w4.cell? ⟨g6 + 1, 1, none⟩ = some (.int .i64 0) := hk9.cell 1
      have f91 : w4.frozen? ⟨g6 + 1, 1, none⟩ = false := hk9.frozen 1
      have c92 : w4.cell? ⟨g6 + 1, 2, none⟩ = some (.string s) := hk9.cell 2
      have f92 : w4.frozen? ⟨g6 + 1, 2, none⟩ = false := hk9.frozen 2
      clear hk6 hk9
      go_wp2_with fail
      refine bodyPost_ret (v := .tuple #[.agg #[.int .u8 97, .int .i64 0, .string s], .int .i64 nx, .nilIface]) (by simp [results, Tryd.results42, go_sem, *]) rfl ?_
      refine ⟨0, s, _, by first | (rw [HAE.out]; done) | (rw [HAE.out]; rfl), ?_, ?_⟩
      · intro _; exact ⟨by unfold argN; rw [if_neg (by omega), if_neg (by omega)], by unfold argS; rw [if_neg (by omega), if_pos rfl, HS9.out], by unfold argX; rw [if_pos (by omega), HNX.out]⟩
      · repeat (refine below_set ?_ (by omega))
        exact HB4.out
    · skip
      have h200 : 200 < s.size := by omega
      have HAE : Hid (argE 97 bs a = 3) := by show _ = _; unfold argE; rw [if_neg (by omega), if_neg (by omega), if_neg (by omega), if_pos rfl, if_neg (by rw [HQ.out]; omega), if_pos (by rw [← HSZL.out]; omega)]
      have HSU : Hid (suchB 97 0 s = false) := by show _ = _; unfold suchB suchS suchA; simp; omega
      refine (getList_any A S v bs a w2 HS2.out HE2.out h1 h2 h3 h4).mono ?_
      rintro e w3 ⟨rfl, hb3⟩
      rw [HRES.out]
      have HB3 := Lib.hid (HB2.out.trans (hb3.mono HB2.out.size))
      have hk6 := HK6.out.below hb3 HK6.out.lt
      have hk9 := HK9.out.below hb3 HK9.out.lt
      have c60 : w3.cell? ⟨g6, 0, none⟩ = some (.int .u8 0) := hk6.cell 0
      have f60 : w3.frozen? ⟨g6, 0, none⟩ = false := hk6.frozen 0
      have c61 : w3.cell? ⟨g6, 1, none⟩ = some (.int .i64 0) := hk6.cell 1
      have f61 : w3.frozen? ⟨g6, 1, none⟩ = false := hk6.frozen 1
      have c62 : w3.cell? ⟨g6, 2, none⟩ = some (.string ⟨#[]⟩) := hk6.cell 2
      have f62 : w3.frozen? ⟨g6, 2, none⟩ = false := hk6.frozen 2
      have c90 : w3.cell? ⟨g6 + 1, 0, none⟩ = some (.int .u8 97) := hk9.cell 0
      have f90 : w3.frozen? ⟨g6 + 1, 0, none⟩ = false := hk9.frozen 0
      have c91 : w3.cell? ⟨g6 + 1, 1, none⟩ = some (.int .i64 0) := hk9.cell 1
      have f91 : w3.frozen? ⟨g6 + 1, 1, none⟩ = false := hk9.frozen 1
      have c92 : w3.cell? ⟨g6 + 1, 2, none⟩ = some (.string ⟨#[]⟩) := hk9.cell 2
      have f92 : w3.frozen? ⟨g6 + 1, 2, none⟩ = false := hk9.frozen 2
      go_wp2_with fail
      refine (such_any 97 0 s _ HSZ.out).mono ?_
      rintro e w4 ⟨rfl, hb4⟩
      rw [HSU.out]
      have hk9' := (hk9.set_ 2 _).below hb4 (hk9.set_ 2 _).lt
      have hk6' := (hk6.far (show g6 ≠ g6 + 1 by omega) _).below hb4 (hk6.far (show g6 ≠ g6 + 1 by omega) _).lt
      have HB4 : Hid (Below w.heap.size w w4) := by
        refine Below.trans ?_ (hb4.mono ?_)
        · repeat (refine below_set ?_ (by omega))
          exact HB3.out
        · exact Nat.le_trans HB3.out.size (by simp)
      clear c60 c61 c62 c90 c91 c92 f60 f61 f62 f90 f91 f92 hk6 hk9
      have hk6 := hk6'
      have hk9 := hk9'
      clear hk6' hk9' hb4 hb3
      have c60 : w4.cell? ⟨g6, 0, none⟩ = some (.int .u8 0) := hk6.cell 0
      have f60 : w4.frozen? ⟨g6, 0, none⟩ = false := hk6.frozen 0
      have c61 : w4.cell? ⟨g6, 1, none⟩ = some (.int .i64 0) := hk6.cell 1
      have f61 : w4.frozen? ⟨g6, 1, none⟩ = false := hk6.frozen 1
      have c62 : w4.cell? ⟨g6, 2, none⟩ = some (.string ⟨#[]⟩) := hk6.cell 2
      have f62 : w4.frozen? ⟨g6, 2, none⟩ = false := hk6.frozen 2
      have c90 : w4.cell? ⟨g6 + 1, 0, none⟩ = some (.int .u8 97) := hk9.cell 0
      have f90 : w4.frozen? ⟨g6 + 1, 0, none⟩ = false := hk9.frozen 0
      have c91 : w4.cell? ⟨g6 + 1, 1, none⟩ = some (.int .i64 0) := hk9.cell 1
      have f91 : w4.frozen? ⟨g6 + 1, 1, none⟩ = false := hk9.frozen 1
      have c92 : w4.cell? ⟨g6 + 1, 2, none⟩ = some (.string s) := hk9.cell 2
      have f92 : w4.frozen? ⟨g6 + 1, 2, none⟩ = false := hk9.frozen 2
      have cB := (HE.out.to HB4.out HB4.out.size).var h3
      have cB' : w4.cell? ⟨1, 0, none⟩ = some (.iface 121 (.pointer (some (A 3)))) := cB
      clear cB
      clear hk6 hk9
      go_wp2_with fail
      refine bodyPost_ret (v := .tuple #[.agg #[.int .u8 97, .int .i64 0, .string s], .int .i64 nx, .iface 121 (.pointer (some (A 3)))]) (by simp [results, Tryd.results42, go_sem, *]) rfl ?_
      refine ⟨0, s, _, by first | (rw [HAE.out]; done) | (rw [HAE.out]; rfl), ?_, ?_⟩
      · intro hx; rw [HAE.out] at hx; omega
      · repeat (refine below_set ?_ (by omega))
        exact HB4.out
  · obtain ⟨q, hq⟩ : ∃ q, q = gotE bs a 0 := ⟨_, rfl⟩
    have hae : argE 97 bs a = q := by unfold argE; rw [if_neg (by omega), if_neg (by omega), if_neg (by omega), if_pos rfl, if_pos he, hq]
    have hres : gotR A bs a 0 = .tuple #[.string (strB []), .int .i64 0, errV A q] := by unfold gotR; rw [if_neg he, hq]
    rw [← hq] at he
    have HAE := Lib.hid hae
    have HRES := Lib.hid hres
    have hq0 : 0 < q := by omega
    have hq4 : q ≤ 4 := by rw [hq]; exact gotE_le bs a 0
    clear hq hae he hres
    refine (getList_any A S v bs a w2 HS2.out HE2.out h1 h2 h3 h4).mono ?_
    rintro e w3 ⟨rfl, hb3⟩
    rw [HRES.out, errV_pos A hq0]
    have HB3 := Lib.hid (HB2.out.trans (hb3.mono HB2.out.size))
    have hk6 := HK6.out.below hb3 HK6.out.lt
    have hk9 := HK9.out.below hb3 HK9.out.lt
    have c60 : w3.cell? ⟨g6, 0, none⟩ = some (.int .u8 0) := hk6.cell 0
    have f60 : w3.frozen? ⟨g6, 0, none⟩ = false := hk6.frozen 0
    have c61 : w3.cell? ⟨g6, 1, none⟩ = some (.int .i64 0) := hk6.cell 1
    have f61 : w3.frozen? ⟨g6, 1, none⟩ = false := hk6.frozen 1
    have c62 : w3.cell? ⟨g6, 2, none⟩ = some (.string ⟨#[]⟩) := hk6.cell 2
    have f62 : w3.frozen? ⟨g6, 2, none⟩ = false := hk6.frozen 2
    have c90 : w3.cell? ⟨g6 + 1, 0, none⟩ = some (.int .u8 97) := hk9.cell 0
    have f90 : w3.frozen? ⟨g6 + 1, 0, none⟩ = false := hk9.frozen 0
    have c91 : w3.cell? ⟨g6 + 1, 1, none⟩ = some (.int .i64 0) := hk9.cell 1
    have f91 : w3.frozen? ⟨g6 + 1, 1, none⟩ = false := hk9.frozen 1
    have c92 : w3.cell? ⟨g6 + 1, 2, none⟩ = some (.string ⟨#[]⟩) := hk9.cell 2
    have f92 : w3.frozen? ⟨g6 + 1, 2, none⟩ = false := hk9.frozen 2
    clear hb3 hk6 hk9
    go_wp2_with fail
    refine bodyPost_ret (v := .tuple #[.agg #[.int .u8 97, .int .i64 0, .string (strB [])], .int .i64 0, .iface 121 (.pointer (some (A q)))]) (by simp [results, Tryd.results42, go_sem, *]) rfl ?_
    refine ⟨0, _, _, by first | (rw [HAE.out, errV_pos A hq0]; done) | (rw [HAE.out, errV_pos A hq0]; rfl), ?_, ?_⟩
    · intro hx; rw [HAE.out] at hx; omega
    · repeat (refine below_set ?_ (by omega))
      exact HB3.out
set_option linter.unusedVariables false in
set_option maxHeartbeats 1000000 in
theorem arg_other (A : Nat → Addr) (S : List Nat) (h1 : 1 ∈ S) (h2 : 2 ∈ S) (h3 : 3 ∈ S) (h4 : 4 ∈ S) (k : Int) (hk : k ≠ 105 ∧ k ≠ 102 ∧ k ≠ 117 ∧ k ≠ 111 ∧ k ≠ 110 ∧ k ≠ 115 ∧ k ≠ 97) (v : Value) (bs : List UInt8) (a : Nat) (w : World) (h : Sl w w.heap.size v (bv bs)) (hE : Errs w w.heap.size S A) (ha : a ≤ bs.length) (hl : bs.length ≤ 1000000000) :
    Calls Tryd.prog 42 #[.int .u8 k, v, .int .i64 a] w (ArgPost A k bs a w) := by
  obtain ⟨d1, d2, d3, d4, d5, d6, d7⟩ := hk
  have e0 : (k == 105) = false := by simp; omega
  have e1 : (k == 102) = false := by simp; omega
  have e2 : (k == 117) = false := by simp; omega
  have e3 : (k == 111) = false := by simp; omega
  have e4 : (k == 110) = false := by simp; omega
  have e5 : (k == 115) = false := by simp; omega
  have e6 : (k == 97) = false := by simp; omega
  have hae : argE k bs a = 1 := by unfold argE; rw [if_neg (by omega), if_neg (by omega), if_neg (by omega), if_neg (by omega)]
  have HAE := Lib.hid hae
  clear d1 d2 d3 d4 d5 d6 d7 hae
  have HE := Lib.hid hE
  have HS := Lib.hid h
  have HA := Lib.hid ha
  have ha9 : (a : Int) ≤ 1000000000 := by omega
  obtain ⟨g6, hg6⟩ : ∃ g6, g6 = w.heap.size := ⟨_, rfl⟩
  have HG6 := Lib.hid hg6
  clear h ha hl hE
  go_enter Tryd.func42, Tryd.ntmps42
  go_upto_region 4 with (fail)
  have hb2 : Below w.heap.size w ((w.alloc (.cells #[.int .u8 0, .int .i64 0, .string ⟨#[]⟩] 26)).alloc (.cells #[.int .u8 k, .int .i64 0, .string ⟨#[]⟩] 26)) := ((Below.refl _ _).alloc (Nat.le_refl _) _).alloc (by simp) _
  have hk6 : Blk ((w.alloc (.cells #[.int .u8 0, .int .i64 0, .string ⟨#[]⟩] 26)).alloc (.cells #[.int .u8 k, .int .i64 0, .string ⟨#[]⟩] 26)) w.heap.size 26 #[.int .u8 0, .int .i64 0, .string ⟨#[]⟩] := (Blk.new _ _ _).alloc _
  have hk9 : Blk ((w.alloc (.cells #[.int .u8 0, .int .i64 0, .string ⟨#[]⟩] 26)).alloc (.cells #[.int .u8 k, .int .i64 0, .string ⟨#[]⟩] 26)) (w.heap.size + 1) 26 #[.int .u8 k, .int .i64 0, .string ⟨#[]⟩] := by
    have := Blk.new (w.alloc (.cells #[.int .u8 0, .int .i64 0, .string ⟨#[]⟩] 26)) 26 #[.int .u8 k, .int .i64 0, .string ⟨#[]⟩]
    rwa [World.size_alloc] at this
  have HB2 := Lib.hid hb2
  rw [← hg6] at hk6 hk9 ⊢
  have HK6 := Lib.hid hk6
  have HK9 := Lib.hid hk9
  clear hb2 hk6 hk9 hg6
  generalize ((w.alloc (.cells #[.int .u8 0, .int .i64 0, .string ⟨#[]⟩] 26)).alloc (.cells #[.int .u8 k, .int .i64 0, .string ⟨#[]⟩] 26)) = w2 at HB2 HK6 HK9 ⊢
  have HS2 := Lib.hid ((HS.out.below HB2.out).more HB2.out.size)
  have hgw : w.heap.size ≤ g6 := by have := HG6.out; omega
  have HE2 := Lib.hid (HE.out.to HB2.out HB2.out.size)
  have hk6 := HK6.out
  have hk9 := HK9.out
  have c60 : w2.cell? ⟨g6, 0, none⟩ = some (.int .u8 0) := hk6.cell 0
  have f60 : w2.frozen? ⟨g6, 0, none⟩ = false := hk6.frozen 0
  have c61 : w2.cell? ⟨g6, 1, none⟩ = some (.int .i64 0) := hk6.cell 1
  have f61 : w2.frozen? ⟨g6, 1, none⟩ = false := hk6.frozen 1
  have c62 : w2.cell? ⟨g6, 2, none⟩ = some (.string ⟨#[]⟩) := hk6.cell 2
  have f62 : w2.frozen? ⟨g6, 2, none⟩ = false := hk6.frozen 2
  have c90 : w2.cell? ⟨g6 + 1, 0, none⟩ = some (.int .u8 k) := hk9.cell 0
  have f90 : w2.frozen? ⟨g6 + 1, 0, none⟩ = false := hk9.frozen 0
  have c91 : w2.cell? ⟨g6 + 1, 1, none⟩ = some (.int .i64 0) := hk9.cell 1
  have f91 : w2.frozen? ⟨g6 + 1, 1, none⟩ = false := hk9.frozen 1
  have c92 : w2.cell? ⟨g6 + 1, 2, none⟩ = some (.string ⟨#[]⟩) := hk9.cell 2
  have f92 : w2.frozen? ⟨g6 + 1, 2, none⟩ = false := hk9.frozen 2
  clear hk6 hk9
  have cA : w2.cell? ⟨0, 0, none⟩ = some (.iface 121 (.pointer (some (A 1)))) := HE2.out.var h1
  have hlt : 0 < g6 := by rw [HG6.out]; exact (HE.out.1 1 h1).2.1
  have hne : ¬ g6 = 0 := by omega
  have hne2 : ¬ 0 = g6 := by omega
  go_region
  all_goals go_wp2_with fail
  all_goals (refine bodyPost_ret (v := .tuple #[.agg #[.int .u8 k, .int .i64 0, .string ⟨#[]⟩], .int .i64 (a : Int), .iface 121 (.pointer (some (A 1)))]) (by simp [results, Tryd.results42, go_sem, *]) rfl ?_)
  all_goals
    refine ⟨0, ⟨#[]⟩, _, by rw [HAE.out]; rfl, ?_, ?_⟩
    · intro hx; rw [HAE.out] at hx; omega
    · repeat (first | refine below_drewN ?_ 1 | refine below_set ?_ (by omega))
      exact HB2.out
set_option linter.unusedVariables false in
set_option maxHeartbeats 1000000 in
theorem arg_any (A : Nat → Addr) (S : List Nat) (h1 : 1 ∈ S) (h2 : 2 ∈ S) (h3 : 3 ∈ S) (h4 : 4 ∈ S) (k : Int) (v : Value) (bs : List UInt8) (a : Nat) (w : World) (h : Sl w w.heap.size v (bv bs)) (hE : Errs w w.heap.size S A) (ha : a ≤ bs.length) (hl : bs.length ≤ 1000000000) :
    Calls Tryd.prog 42 #[.int .u8 k, v, .int .i64 a] w (ArgPost A k bs a w) := by
  by_cases c1 : k = 105
  · subst c1; exact arg_105 A S h1 h2 h3 h4 v bs a w h hE ha hl
  by_cases c102 : k = 102
  · subst c102; exact arg_102 A S h1 h2 h3 h4 v bs a w h hE ha hl
  by_cases c117 : k = 117
  · subst c117; exact arg_117 A S h1 h2 h3 h4 v bs a w h hE ha hl
  by_cases c111 : k = 111
  · subst c111; exact arg_111 A S h1 h2 h3 h4 v bs a w h hE ha hl
  by_cases c110 : k = 110
  · subst c110; exact arg_110 A S h1 h2 h3 h4 v bs a w h hE ha hl
  by_cases c115 : k = 115
  · subst c115; exact arg_115 A S h1 h2 h3 h4 v bs a w h hE ha hl
  by_cases c97 : k = 97
  · subst c97; exact arg_97 A S h1 h2 h3 h4 v bs a w h hE ha hl
  exact arg_other A S h1 h2 h3 h4 k ⟨c1, c102, c117, c111, c110, c115, c97⟩ v bs a w h hE ha hl
end Go.Proofs.YtihbgkighckiiaaDoor
