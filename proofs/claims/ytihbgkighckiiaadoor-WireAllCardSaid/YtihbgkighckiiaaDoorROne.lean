/- tableauref04.one: an argument that stands at a place. No condition but that the errors stand in memory. -/
import Derived.Test.YtihbgkighckiiaaDoorArgL
import Derived.Test.YtihbgkighckiiaaDoorKind
import Derived.Test.YtihbgkighckiiaaDoorHead
import Derived.Deep.RegionWith
import Derived.Deep.CutBlock
import Derived.Deep.CutRange
namespace Go.Proofs.YtihbgkighckiiaaDoor
open Go.RowKit
set_option maxRecDepth 100000

def ROnePost (k : Int) (bs : List UInt8) (a : Nat) (w : World) (e : Ending) (w' : World) : Prop :=
  ∃ (n : Int) (s : ByteArray) (x : Int), e = .returned (.tuple #[.agg #[.int .u8 k, .int .i64 n, .string s], .int .i64 x, .int .i64 (argE k bs a)]) ∧ (argE k bs a = 0 → n = argN k bs a ∧ s = argS k bs a ∧ x = argX k bs a) ∧ Below w.heap.size w w'
theorem rsigned_lt {x : Int} (h : x < 2147483648) : signed x = x := by unfold signed; rw [if_pos h]
theorem rsigned_ge {x : Int} (h : ¬ x < 2147483648) : signed x = x - 4294967296 := by unfold signed; rw [if_neg h]
theorem rbelow_set {B b i : Nat} {a w : World} {u : Value} (h : Below B a w) (hp : B ≤ b) : Below B a (w.setCell ⟨b, i, none⟩ u) := h.setCell (p := ⟨b, i, none⟩) hp u
set_option linter.unusedVariables false in
set_option maxHeartbeats 1000000 in
theorem rone_105 (v : Value) (bs : List UInt8) (a : Nat) (w : World) (h : Sl w w.heap.size v (bv bs)) (ha : a ≤ bs.length) (hl : bs.length ≤ 1000000000) :
    Calls Tryd.prog 45 #[v, .int .i64 a, .int .u8 105] w (ROnePost 105 bs a w) := by
  have HS := Lib.hid h
  have HA := Lib.hid ha
  have ha9 : (a : Int) ≤ 1000000000 := by omega
  obtain ⟨g6, hg6⟩ : ∃ g6, g6 = w.heap.size := ⟨_, rfl⟩
  have HG6 := Lib.hid hg6
  clear h ha hl
  go_enter Tryd.func45, Tryd.ntmps45
  go_wp2_with fail
  have hb2 : Below w.heap.size w ((w.alloc (.cells #[.int .u8 0, .int .i64 0, .string ⟨#[]⟩] 26)).alloc (.cells #[.int .u8 105, .int .i64 0, .string ⟨#[]⟩] 26)) := ((Below.refl _ _).alloc (Nat.le_refl _) _).alloc (by simp) _
  have hk6 : Blk ((w.alloc (.cells #[.int .u8 0, .int .i64 0, .string ⟨#[]⟩] 26)).alloc (.cells #[.int .u8 105, .int .i64 0, .string ⟨#[]⟩] 26)) w.heap.size 26 #[.int .u8 0, .int .i64 0, .string ⟨#[]⟩] := (Blk.new _ _ _).alloc _
  have hk9 : Blk ((w.alloc (.cells #[.int .u8 0, .int .i64 0, .string ⟨#[]⟩] 26)).alloc (.cells #[.int .u8 105, .int .i64 0, .string ⟨#[]⟩] 26)) (w.heap.size + 1) 26 #[.int .u8 105, .int .i64 0, .string ⟨#[]⟩] := by
    have := Blk.new (w.alloc (.cells #[.int .u8 0, .int .i64 0, .string ⟨#[]⟩] 26)) 26 #[.int .u8 105, .int .i64 0, .string ⟨#[]⟩]
    rwa [World.size_alloc] at this
  have HB2 := Lib.hid hb2
  rw [← hg6] at hk6 hk9 ⊢
  have HK6 := Lib.hid hk6
  have HK9 := Lib.hid hk9
  clear hb2 hk6 hk9 hg6
  generalize ((w.alloc (.cells #[.int .u8 0, .int .i64 0, .string ⟨#[]⟩] 26)).alloc (.cells #[.int .u8 105, .int .i64 0, .string ⟨#[]⟩] 26)) = w2 at HB2 HK6 HK9 ⊢
  have HS2 := Lib.hid ((HS.out.below HB2.out).more HB2.out.size)
  have hgw : w.heap.size ≤ g6 := by have := HG6.out; omega
  by_cases he : getE bs a = 0
  · have hlen : a + 4 ≤ bs.length := by unfold getE at he; split at he; omega; split at he; omega; omega
    obtain ⟨x0, x1⟩ := leV_bd bs a
    obtain ⟨x, hx⟩ : ∃ x, leV bs a = x := ⟨_, rfl⟩
    rw [hx] at x0 x1
    have HX := Lib.hid hx
    have HLEN := Lib.hid hlen
    have HQ := Lib.hid he
    clear hx hlen he
    by_cases hx3 : x < 2147483648
    · skip
      have HAE : Hid (argE 105 bs a = 0) := by show _ = _; unfold argE; rw [if_pos (by omega), HQ.out]
      refine (hrget_ok v bs a a rfl x HX.out w2 HS2.out HLEN.out).mono ?_
      rintro e w3 ⟨rfl, hb3⟩
      have HB3 := Lib.hid (HB2.out.trans (hb3.mono HB2.out.size))
      have hk6 := HK6.out.below hb3 HK6.out.lt
      have hk9 := HK9.out.below hb3 HK9.out.lt
      have c60 : w3.cell? ⟨g6, 0, none⟩ = some (.int .u8 0) := hk6.cell 0
      have f60 : w3.frozen? ⟨g6, 0, none⟩ = false := hk6.frozen 0
      have c61 : w3.cell? ⟨g6, 1, none⟩ = some (.int .i64 0) := hk6.cell 1
      have f61 : w3.frozen? ⟨g6, 1, none⟩ = false := hk6.frozen 1
      have c62 : w3.cell? ⟨g6, 2, none⟩ = some (.string ⟨#[]⟩) := hk6.cell 2
      have f62 : w3.frozen? ⟨g6, 2, none⟩ = false := hk6.frozen 2
      have c90 : w3.cell? ⟨g6 + 1, 0, none⟩ = some (.int .u8 105) := hk9.cell 0
      have f90 : w3.frozen? ⟨g6 + 1, 0, none⟩ = false := hk9.frozen 0
      have c91 : w3.cell? ⟨g6 + 1, 1, none⟩ = some (.int .i64 0) := hk9.cell 1
      have f91 : w3.frozen? ⟨g6 + 1, 1, none⟩ = false := hk9.frozen 1
      have c92 : w3.cell? ⟨g6 + 1, 2, none⟩ = some (.string ⟨#[]⟩) := hk9.cell 2
      have f92 : w3.frozen? ⟨g6 + 1, 2, none⟩ = false := hk9.frozen 2
      clear hb3 hk6 hk9
      go_wp2_with fail
      refine bodyPost_ret (v := .tuple #[.agg #[.int .u8 105, .int .i64 x, .string ⟨#[]⟩], .int .i64 ((a : Int) + 4), .int .i64 0]) (by simp [results, Tryd.results45, go_sem, *]) rfl ?_
      refine ⟨x, ⟨#[]⟩, _, by first | (rw [HAE.out]; done) | (rw [HAE.out]; rfl), ?_, ?_⟩
      · intro _; exact ⟨by unfold argN; rw [if_pos (by omega), HX.out, rsigned_lt (show x < 2147483648 by omega)], by unfold argS; rw [if_neg (by omega), if_neg (by omega)], by unfold argX; rw [if_neg (by omega)]; rfl⟩
      · repeat (refine rbelow_set ?_ (by omega))
        exact HB3.out
    · have hx4 : 2147483648 ≤ x := by omega
      have hw : wrap64 (wrap32 x) = x - 4294967296 := by unfold wrap64 wrap32; omega
      have HAE : Hid (argE 105 bs a = 0) := by show _ = _; unfold argE; rw [if_pos (by omega), HQ.out]
      refine (hrget_ok v bs a a rfl x HX.out w2 HS2.out HLEN.out).mono ?_
      rintro e w3 ⟨rfl, hb3⟩
      have HB3 := Lib.hid (HB2.out.trans (hb3.mono HB2.out.size))
      have hk6 := HK6.out.below hb3 HK6.out.lt
      have hk9 := HK9.out.below hb3 HK9.out.lt
      have c60 : w3.cell? ⟨g6, 0, none⟩ = some (.int .u8 0) := hk6.cell 0
      have f60 : w3.frozen? ⟨g6, 0, none⟩ = false := hk6.frozen 0
      have c61 : w3.cell? ⟨g6, 1, none⟩ = some (.int .i64 0) := hk6.cell 1
      have f61 : w3.frozen? ⟨g6, 1, none⟩ = false := hk6.frozen 1
      have c62 : w3.cell? ⟨g6, 2, none⟩ = some (.string ⟨#[]⟩) := hk6.cell 2
      have f62 : w3.frozen? ⟨g6, 2, none⟩ = false := hk6.frozen 2
      have c90 : w3.cell? ⟨g6 + 1, 0, none⟩ = some (.int .u8 105) := hk9.cell 0
      have f90 : w3.frozen? ⟨g6 + 1, 0, none⟩ = false := hk9.frozen 0
      have c91 : w3.cell? ⟨g6 + 1, 1, none⟩ = some (.int .i64 0) := hk9.cell 1
      have f91 : w3.frozen? ⟨g6 + 1, 1, none⟩ = false := hk9.frozen 1
      have c92 : w3.cell? ⟨g6 + 1, 2, none⟩ = some (.string ⟨#[]⟩) := hk9.cell 2
      have f92 : w3.frozen? ⟨g6 + 1, 2, none⟩ = false := hk9.frozen 2
      clear hb3 hk6 hk9
      go_wp2_with fail
      refine bodyPost_ret (v := .tuple #[.agg #[.int .u8 105, .int .i64 (x - 4294967296), .string ⟨#[]⟩], .int .i64 ((a : Int) + 4), .int .i64 0]) (by simp [results, Tryd.results45, go_sem, *]) rfl ?_
      refine ⟨(x - 4294967296), ⟨#[]⟩, _, by first | (rw [HAE.out]; done) | (rw [HAE.out]; rfl), ?_, ?_⟩
      · intro _; exact ⟨by unfold argN; rw [if_pos (by omega), HX.out, rsigned_ge (show ¬ x < 2147483648 by omega)], by unfold argS; rw [if_neg (by omega), if_neg (by omega)], by unfold argX; rw [if_neg (by omega)]; rfl⟩
      · repeat (refine rbelow_set ?_ (by omega))
        exact HB3.out
  · obtain ⟨q, hq⟩ : ∃ q, q = getE bs a := ⟨_, rfl⟩
    have hv : getV bs a = 0 := by unfold getV; rw [if_neg he]
    have hae : argE 105 bs a = q := by unfold argE; rw [if_pos (by omega), hq]
    have hq2 := getE_le2 bs a
    rw [← hq] at he hq2
    have HQ := Lib.hid hq
    have HV := Lib.hid hv
    have HAE := Lib.hid hae
    have hq0 : 0 < q := by omega
    clear hq hv hae he
    have dq : ((q : Int) == 0) = false := by simp; omega
    refine (rget_any v bs a w2 HS2.out).mono ?_
    rintro e w3 ⟨rfl, hb3⟩
    rw [HV.out, ← HQ.out]
    have HB3 := Lib.hid (HB2.out.trans (hb3.mono HB2.out.size))
    have hk6 := HK6.out.below hb3 HK6.out.lt
    have hk9 := HK9.out.below hb3 HK9.out.lt
    have c60 : w3.cell? ⟨g6, 0, none⟩ = some (.int .u8 0) := hk6.cell 0
    have f60 : w3.frozen? ⟨g6, 0, none⟩ = false := hk6.frozen 0
    have c61 : w3.cell? ⟨g6, 1, none⟩ = some (.int .i64 0) := hk6.cell 1
    have f61 : w3.frozen? ⟨g6, 1, none⟩ = false := hk6.frozen 1
    have c62 : w3.cell? ⟨g6, 2, none⟩ = some (.string ⟨#[]⟩) := hk6.cell 2
    have f62 : w3.frozen? ⟨g6, 2, none⟩ = false := hk6.frozen 2
    have c90 : w3.cell? ⟨g6 + 1, 0, none⟩ = some (.int .u8 105) := hk9.cell 0
    have f90 : w3.frozen? ⟨g6 + 1, 0, none⟩ = false := hk9.frozen 0
    have c91 : w3.cell? ⟨g6 + 1, 1, none⟩ = some (.int .i64 0) := hk9.cell 1
    have f91 : w3.frozen? ⟨g6 + 1, 1, none⟩ = false := hk9.frozen 1
    have c92 : w3.cell? ⟨g6 + 1, 2, none⟩ = some (.string ⟨#[]⟩) := hk9.cell 2
    have f92 : w3.frozen? ⟨g6 + 1, 2, none⟩ = false := hk9.frozen 2
    clear hb3 hk6 hk9
    go_wp2_with fail
    refine bodyPost_ret (v := .tuple #[.agg #[.int .u8 105, .int .i64 0, .string ⟨#[]⟩], .int .i64 ((a : Int) + 4), .int .i64 q]) (by simp [results, Tryd.results45, go_sem, *]) rfl ?_
    refine ⟨0, ⟨#[]⟩, _, by first | (rw [HAE.out]; done) | (rw [HAE.out]; rfl), ?_, ?_⟩
    · intro hx; rw [HAE.out] at hx; omega
    · repeat (refine rbelow_set ?_ (by omega))
      exact HB3.out
set_option linter.unusedVariables false in
set_option maxHeartbeats 1000000 in
theorem rone_102 (v : Value) (bs : List UInt8) (a : Nat) (w : World) (h : Sl w w.heap.size v (bv bs)) (ha : a ≤ bs.length) (hl : bs.length ≤ 1000000000) :
    Calls Tryd.prog 45 #[v, .int .i64 a, .int .u8 102] w (ROnePost 102 bs a w) := by
  have HS := Lib.hid h
  have HA := Lib.hid ha
  have ha9 : (a : Int) ≤ 1000000000 := by omega
  obtain ⟨g6, hg6⟩ : ∃ g6, g6 = w.heap.size := ⟨_, rfl⟩
  have HG6 := Lib.hid hg6
  clear h ha hl
  go_enter Tryd.func45, Tryd.ntmps45
  go_wp2_with fail
  have hb2 : Below w.heap.size w ((w.alloc (.cells #[.int .u8 0, .int .i64 0, .string ⟨#[]⟩] 26)).alloc (.cells #[.int .u8 102, .int .i64 0, .string ⟨#[]⟩] 26)) := ((Below.refl _ _).alloc (Nat.le_refl _) _).alloc (by simp) _
  have hk6 : Blk ((w.alloc (.cells #[.int .u8 0, .int .i64 0, .string ⟨#[]⟩] 26)).alloc (.cells #[.int .u8 102, .int .i64 0, .string ⟨#[]⟩] 26)) w.heap.size 26 #[.int .u8 0, .int .i64 0, .string ⟨#[]⟩] := (Blk.new _ _ _).alloc _
  have hk9 : Blk ((w.alloc (.cells #[.int .u8 0, .int .i64 0, .string ⟨#[]⟩] 26)).alloc (.cells #[.int .u8 102, .int .i64 0, .string ⟨#[]⟩] 26)) (w.heap.size + 1) 26 #[.int .u8 102, .int .i64 0, .string ⟨#[]⟩] := by
    have := Blk.new (w.alloc (.cells #[.int .u8 0, .int .i64 0, .string ⟨#[]⟩] 26)) 26 #[.int .u8 102, .int .i64 0, .string ⟨#[]⟩]
    rwa [World.size_alloc] at this
  have HB2 := Lib.hid hb2
  rw [← hg6] at hk6 hk9 ⊢
  have HK6 := Lib.hid hk6
  have HK9 := Lib.hid hk9
  clear hb2 hk6 hk9 hg6
  generalize ((w.alloc (.cells #[.int .u8 0, .int .i64 0, .string ⟨#[]⟩] 26)).alloc (.cells #[.int .u8 102, .int .i64 0, .string ⟨#[]⟩] 26)) = w2 at HB2 HK6 HK9 ⊢
  have HS2 := Lib.hid ((HS.out.below HB2.out).more HB2.out.size)
  have hgw : w.heap.size ≤ g6 := by have := HG6.out; omega
  by_cases he : getE bs a = 0
  · have hlen : a + 4 ≤ bs.length := by unfold getE at he; split at he; omega; split at he; omega; omega
    obtain ⟨x0, x1⟩ := leV_bd bs a
    obtain ⟨x, hx⟩ : ∃ x, leV bs a = x := ⟨_, rfl⟩
    rw [hx] at x0 x1
    have HX := Lib.hid hx
    have HLEN := Lib.hid hlen
    have HQ := Lib.hid he
    clear hx hlen he
    by_cases hx3 : x < 2147483648
    · skip
      have HAE : Hid (argE 102 bs a = 0) := by show _ = _; unfold argE; rw [if_pos (by omega), HQ.out]
      refine (hrget_ok v bs a a rfl x HX.out w2 HS2.out HLEN.out).mono ?_
      rintro e w3 ⟨rfl, hb3⟩
      have HB3 := Lib.hid (HB2.out.trans (hb3.mono HB2.out.size))
      have hk6 := HK6.out.below hb3 HK6.out.lt
      have hk9 := HK9.out.below hb3 HK9.out.lt
      have c60 : w3.cell? ⟨g6, 0, none⟩ = some (.int .u8 0) := hk6.cell 0
      have f60 : w3.frozen? ⟨g6, 0, none⟩ = false := hk6.frozen 0
      have c61 : w3.cell? ⟨g6, 1, none⟩ = some (.int .i64 0) := hk6.cell 1
      have f61 : w3.frozen? ⟨g6, 1, none⟩ = false := hk6.frozen 1
      have c62 : w3.cell? ⟨g6, 2, none⟩ = some (.string ⟨#[]⟩) := hk6.cell 2
      have f62 : w3.frozen? ⟨g6, 2, none⟩ = false := hk6.frozen 2
      have c90 : w3.cell? ⟨g6 + 1, 0, none⟩ = some (.int .u8 102) := hk9.cell 0
      have f90 : w3.frozen? ⟨g6 + 1, 0, none⟩ = false := hk9.frozen 0
      have c91 : w3.cell? ⟨g6 + 1, 1, none⟩ = some (.int .i64 0) := hk9.cell 1
      have f91 : w3.frozen? ⟨g6 + 1, 1, none⟩ = false := hk9.frozen 1
      have c92 : w3.cell? ⟨g6 + 1, 2, none⟩ = some (.string ⟨#[]⟩) := hk9.cell 2
      have f92 : w3.frozen? ⟨g6 + 1, 2, none⟩ = false := hk9.frozen 2
      clear hb3 hk6 hk9
      go_wp2_with fail
      refine bodyPost_ret (v := .tuple #[.agg #[.int .u8 102, .int .i64 x, .string ⟨#[]⟩], .int .i64 ((a : Int) + 4), .int .i64 0]) (by simp [results, Tryd.results45, go_sem, *]) rfl ?_
      refine ⟨x, ⟨#[]⟩, _, by first | (rw [HAE.out]; done) | (rw [HAE.out]; rfl), ?_, ?_⟩
      · intro _; exact ⟨by unfold argN; rw [if_pos (by omega), HX.out, rsigned_lt (show x < 2147483648 by omega)], by unfold argS; rw [if_neg (by omega), if_neg (by omega)], by unfold argX; rw [if_neg (by omega)]; rfl⟩
      · repeat (refine rbelow_set ?_ (by omega))
        exact HB3.out
    · have hx4 : 2147483648 ≤ x := by omega
      have hw : wrap64 (wrap32 x) = x - 4294967296 := by unfold wrap64 wrap32; omega
      have HAE : Hid (argE 102 bs a = 0) := by show _ = _; unfold argE; rw [if_pos (by omega), HQ.out]
      refine (hrget_ok v bs a a rfl x HX.out w2 HS2.out HLEN.out).mono ?_
      rintro e w3 ⟨rfl, hb3⟩
      have HB3 := Lib.hid (HB2.out.trans (hb3.mono HB2.out.size))
      have hk6 := HK6.out.below hb3 HK6.out.lt
      have hk9 := HK9.out.below hb3 HK9.out.lt
      have c60 : w3.cell? ⟨g6, 0, none⟩ = some (.int .u8 0) := hk6.cell 0
      have f60 : w3.frozen? ⟨g6, 0, none⟩ = false := hk6.frozen 0
      have c61 : w3.cell? ⟨g6, 1, none⟩ = some (.int .i64 0) := hk6.cell 1
      have f61 : w3.frozen? ⟨g6, 1, none⟩ = false := hk6.frozen 1
      have c62 : w3.cell? ⟨g6, 2, none⟩ = some (.string ⟨#[]⟩) := hk6.cell 2
      have f62 : w3.frozen? ⟨g6, 2, none⟩ = false := hk6.frozen 2
      have c90 : w3.cell? ⟨g6 + 1, 0, none⟩ = some (.int .u8 102) := hk9.cell 0
      have f90 : w3.frozen? ⟨g6 + 1, 0, none⟩ = false := hk9.frozen 0
      have c91 : w3.cell? ⟨g6 + 1, 1, none⟩ = some (.int .i64 0) := hk9.cell 1
      have f91 : w3.frozen? ⟨g6 + 1, 1, none⟩ = false := hk9.frozen 1
      have c92 : w3.cell? ⟨g6 + 1, 2, none⟩ = some (.string ⟨#[]⟩) := hk9.cell 2
      have f92 : w3.frozen? ⟨g6 + 1, 2, none⟩ = false := hk9.frozen 2
      clear hb3 hk6 hk9
      go_wp2_with fail
      refine bodyPost_ret (v := .tuple #[.agg #[.int .u8 102, .int .i64 (x - 4294967296), .string ⟨#[]⟩], .int .i64 ((a : Int) + 4), .int .i64 0]) (by simp [results, Tryd.results45, go_sem, *]) rfl ?_
      refine ⟨(x - 4294967296), ⟨#[]⟩, _, by first | (rw [HAE.out]; done) | (rw [HAE.out]; rfl), ?_, ?_⟩
      · intro _; exact ⟨by unfold argN; rw [if_pos (by omega), HX.out, rsigned_ge (show ¬ x < 2147483648 by omega)], by unfold argS; rw [if_neg (by omega), if_neg (by omega)], by unfold argX; rw [if_neg (by omega)]; rfl⟩
      · repeat (refine rbelow_set ?_ (by omega))
        exact HB3.out
  · obtain ⟨q, hq⟩ : ∃ q, q = getE bs a := ⟨_, rfl⟩
    have hv : getV bs a = 0 := by unfold getV; rw [if_neg he]
    have hae : argE 102 bs a = q := by unfold argE; rw [if_pos (by omega), hq]
    have hq2 := getE_le2 bs a
    rw [← hq] at he hq2
    have HQ := Lib.hid hq
    have HV := Lib.hid hv
    have HAE := Lib.hid hae
    have hq0 : 0 < q := by omega
    clear hq hv hae he
    have dq : ((q : Int) == 0) = false := by simp; omega
    refine (rget_any v bs a w2 HS2.out).mono ?_
    rintro e w3 ⟨rfl, hb3⟩
    rw [HV.out, ← HQ.out]
    have HB3 := Lib.hid (HB2.out.trans (hb3.mono HB2.out.size))
    have hk6 := HK6.out.below hb3 HK6.out.lt
    have hk9 := HK9.out.below hb3 HK9.out.lt
    have c60 : w3.cell? ⟨g6, 0, none⟩ = some (.int .u8 0) := hk6.cell 0
    have f60 : w3.frozen? ⟨g6, 0, none⟩ = false := hk6.frozen 0
    have c61 : w3.cell? ⟨g6, 1, none⟩ = some (.int .i64 0) := hk6.cell 1
    have f61 : w3.frozen? ⟨g6, 1, none⟩ = false := hk6.frozen 1
    have c62 : w3.cell? ⟨g6, 2, none⟩ = some (.string ⟨#[]⟩) := hk6.cell 2
    have f62 : w3.frozen? ⟨g6, 2, none⟩ = false := hk6.frozen 2
    have c90 : w3.cell? ⟨g6 + 1, 0, none⟩ = some (.int .u8 102) := hk9.cell 0
    have f90 : w3.frozen? ⟨g6 + 1, 0, none⟩ = false := hk9.frozen 0
    have c91 : w3.cell? ⟨g6 + 1, 1, none⟩ = some (.int .i64 0) := hk9.cell 1
    have f91 : w3.frozen? ⟨g6 + 1, 1, none⟩ = false := hk9.frozen 1
    have c92 : w3.cell? ⟨g6 + 1, 2, none⟩ = some (.string ⟨#[]⟩) := hk9.cell 2
    have f92 : w3.frozen? ⟨g6 + 1, 2, none⟩ = false := hk9.frozen 2
    clear hb3 hk6 hk9
    go_wp2_with fail
    refine bodyPost_ret (v := .tuple #[.agg #[.int .u8 102, .int .i64 0, .string ⟨#[]⟩], .int .i64 ((a : Int) + 4), .int .i64 q]) (by simp [results, Tryd.results45, go_sem, *]) rfl ?_
    refine ⟨0, ⟨#[]⟩, _, by first | (rw [HAE.out]; done) | (rw [HAE.out]; rfl), ?_, ?_⟩
    · intro hx; rw [HAE.out] at hx; omega
    · repeat (refine rbelow_set ?_ (by omega))
      exact HB3.out
set_option linter.unusedVariables false in
set_option maxHeartbeats 1000000 in
theorem rone_117 (v : Value) (bs : List UInt8) (a : Nat) (w : World) (h : Sl w w.heap.size v (bv bs)) (ha : a ≤ bs.length) (hl : bs.length ≤ 1000000000) :
    Calls Tryd.prog 45 #[v, .int .i64 a, .int .u8 117] w (ROnePost 117 bs a w) := by
  have HS := Lib.hid h
  have HA := Lib.hid ha
  have ha9 : (a : Int) ≤ 1000000000 := by omega
  obtain ⟨g6, hg6⟩ : ∃ g6, g6 = w.heap.size := ⟨_, rfl⟩
  have HG6 := Lib.hid hg6
  clear h ha hl
  go_enter Tryd.func45, Tryd.ntmps45
  go_wp2_with fail
  have hb2 : Below w.heap.size w ((w.alloc (.cells #[.int .u8 0, .int .i64 0, .string ⟨#[]⟩] 26)).alloc (.cells #[.int .u8 117, .int .i64 0, .string ⟨#[]⟩] 26)) := ((Below.refl _ _).alloc (Nat.le_refl _) _).alloc (by simp) _
  have hk6 : Blk ((w.alloc (.cells #[.int .u8 0, .int .i64 0, .string ⟨#[]⟩] 26)).alloc (.cells #[.int .u8 117, .int .i64 0, .string ⟨#[]⟩] 26)) w.heap.size 26 #[.int .u8 0, .int .i64 0, .string ⟨#[]⟩] := (Blk.new _ _ _).alloc _
  have hk9 : Blk ((w.alloc (.cells #[.int .u8 0, .int .i64 0, .string ⟨#[]⟩] 26)).alloc (.cells #[.int .u8 117, .int .i64 0, .string ⟨#[]⟩] 26)) (w.heap.size + 1) 26 #[.int .u8 117, .int .i64 0, .string ⟨#[]⟩] := by
    have := Blk.new (w.alloc (.cells #[.int .u8 0, .int .i64 0, .string ⟨#[]⟩] 26)) 26 #[.int .u8 117, .int .i64 0, .string ⟨#[]⟩]
    rwa [World.size_alloc] at this
  have HB2 := Lib.hid hb2
  rw [← hg6] at hk6 hk9 ⊢
  have HK6 := Lib.hid hk6
  have HK9 := Lib.hid hk9
  clear hb2 hk6 hk9 hg6
  generalize ((w.alloc (.cells #[.int .u8 0, .int .i64 0, .string ⟨#[]⟩] 26)).alloc (.cells #[.int .u8 117, .int .i64 0, .string ⟨#[]⟩] 26)) = w2 at HB2 HK6 HK9 ⊢
  have HS2 := Lib.hid ((HS.out.below HB2.out).more HB2.out.size)
  have hgw : w.heap.size ≤ g6 := by have := HG6.out; omega
  by_cases he : getE bs a = 0
  · have hlen : a + 4 ≤ bs.length := by unfold getE at he; split at he; omega; split at he; omega; omega
    obtain ⟨x0, x1⟩ := leV_bd bs a
    obtain ⟨x, hx⟩ : ∃ x, leV bs a = x := ⟨_, rfl⟩
    rw [hx] at x0 x1
    have HX := Lib.hid hx
    have HLEN := Lib.hid hlen
    have HQ := Lib.hid he
    clear hx hlen he
    skip
    have HAE : Hid (argE 117 bs a = 0) := by show _ = _; unfold argE; rw [if_pos (by omega), HQ.out]
    refine (hrget_ok v bs a a rfl x HX.out w2 HS2.out HLEN.out).mono ?_
    rintro e w3 ⟨rfl, hb3⟩
    have HB3 := Lib.hid (HB2.out.trans (hb3.mono HB2.out.size))
    have hk6 := HK6.out.below hb3 HK6.out.lt
    have hk9 := HK9.out.below hb3 HK9.out.lt
    have c60 : w3.cell? ⟨g6, 0, none⟩ = some (.int .u8 0) := hk6.cell 0
    have f60 : w3.frozen? ⟨g6, 0, none⟩ = false := hk6.frozen 0
    have c61 : w3.cell? ⟨g6, 1, none⟩ = some (.int .i64 0) := hk6.cell 1
    have f61 : w3.frozen? ⟨g6, 1, none⟩ = false := hk6.frozen 1
    have c62 : w3.cell? ⟨g6, 2, none⟩ = some (.string ⟨#[]⟩) := hk6.cell 2
    have f62 : w3.frozen? ⟨g6, 2, none⟩ = false := hk6.frozen 2
    have c90 : w3.cell? ⟨g6 + 1, 0, none⟩ = some (.int .u8 117) := hk9.cell 0
    have f90 : w3.frozen? ⟨g6 + 1, 0, none⟩ = false := hk9.frozen 0
    have c91 : w3.cell? ⟨g6 + 1, 1, none⟩ = some (.int .i64 0) := hk9.cell 1
    have f91 : w3.frozen? ⟨g6 + 1, 1, none⟩ = false := hk9.frozen 1
    have c92 : w3.cell? ⟨g6 + 1, 2, none⟩ = some (.string ⟨#[]⟩) := hk9.cell 2
    have f92 : w3.frozen? ⟨g6 + 1, 2, none⟩ = false := hk9.frozen 2
    clear hb3 hk6 hk9
    go_wp2_with fail
    refine bodyPost_ret (v := .tuple #[.agg #[.int .u8 117, .int .i64 x, .string ⟨#[]⟩], .int .i64 ((a : Int) + 4), .int .i64 0]) (by simp [results, Tryd.results45, go_sem, *]) rfl ?_
    refine ⟨x, ⟨#[]⟩, _, by first | (rw [HAE.out]; done) | (rw [HAE.out]; rfl), ?_, ?_⟩
    · intro _; exact ⟨by unfold argN; rw [if_neg (by omega), if_pos (by omega), HX.out], by unfold argS; rw [if_neg (by omega), if_neg (by omega)], by unfold argX; rw [if_neg (by omega)]; rfl⟩
    · repeat (refine rbelow_set ?_ (by omega))
      exact HB3.out
  · obtain ⟨q, hq⟩ : ∃ q, q = getE bs a := ⟨_, rfl⟩
    have hv : getV bs a = 0 := by unfold getV; rw [if_neg he]
    have hae : argE 117 bs a = q := by unfold argE; rw [if_pos (by omega), hq]
    have hq2 := getE_le2 bs a
    rw [← hq] at he hq2
    have HQ := Lib.hid hq
    have HV := Lib.hid hv
    have HAE := Lib.hid hae
    have hq0 : 0 < q := by omega
    clear hq hv hae he
    have dq : ((q : Int) == 0) = false := by simp; omega
    refine (rget_any v bs a w2 HS2.out).mono ?_
    rintro e w3 ⟨rfl, hb3⟩
    rw [HV.out, ← HQ.out]
    have HB3 := Lib.hid (HB2.out.trans (hb3.mono HB2.out.size))
    have hk6 := HK6.out.below hb3 HK6.out.lt
    have hk9 := HK9.out.below hb3 HK9.out.lt
    have c60 : w3.cell? ⟨g6, 0, none⟩ = some (.int .u8 0) := hk6.cell 0
    have f60 : w3.frozen? ⟨g6, 0, none⟩ = false := hk6.frozen 0
    have c61 : w3.cell? ⟨g6, 1, none⟩ = some (.int .i64 0) := hk6.cell 1
    have f61 : w3.frozen? ⟨g6, 1, none⟩ = false := hk6.frozen 1
    have c62 : w3.cell? ⟨g6, 2, none⟩ = some (.string ⟨#[]⟩) := hk6.cell 2
    have f62 : w3.frozen? ⟨g6, 2, none⟩ = false := hk6.frozen 2
    have c90 : w3.cell? ⟨g6 + 1, 0, none⟩ = some (.int .u8 117) := hk9.cell 0
    have f90 : w3.frozen? ⟨g6 + 1, 0, none⟩ = false := hk9.frozen 0
    have c91 : w3.cell? ⟨g6 + 1, 1, none⟩ = some (.int .i64 0) := hk9.cell 1
    have f91 : w3.frozen? ⟨g6 + 1, 1, none⟩ = false := hk9.frozen 1
    have c92 : w3.cell? ⟨g6 + 1, 2, none⟩ = some (.string ⟨#[]⟩) := hk9.cell 2
    have f92 : w3.frozen? ⟨g6 + 1, 2, none⟩ = false := hk9.frozen 2
    clear hb3 hk6 hk9
    go_wp2_with fail
    refine bodyPost_ret (v := .tuple #[.agg #[.int .u8 117, .int .i64 0, .string ⟨#[]⟩], .int .i64 ((a : Int) + 4), .int .i64 q]) (by simp [results, Tryd.results45, go_sem, *]) rfl ?_
    refine ⟨0, ⟨#[]⟩, _, by first | (rw [HAE.out]; done) | (rw [HAE.out]; rfl), ?_, ?_⟩
    · intro hx; rw [HAE.out] at hx; omega
    · repeat (refine rbelow_set ?_ (by omega))
      exact HB3.out
set_option linter.unusedVariables false in
set_option maxHeartbeats 1000000 in
theorem rone_111 (v : Value) (bs : List UInt8) (a : Nat) (w : World) (h : Sl w w.heap.size v (bv bs)) (ha : a ≤ bs.length) (hl : bs.length ≤ 1000000000) :
    Calls Tryd.prog 45 #[v, .int .i64 a, .int .u8 111] w (ROnePost 111 bs a w) := by
  have HS := Lib.hid h
  have HA := Lib.hid ha
  have ha9 : (a : Int) ≤ 1000000000 := by omega
  obtain ⟨g6, hg6⟩ : ∃ g6, g6 = w.heap.size := ⟨_, rfl⟩
  have HG6 := Lib.hid hg6
  clear h ha hl
  go_enter Tryd.func45, Tryd.ntmps45
  go_wp2_with fail
  have hb2 : Below w.heap.size w ((w.alloc (.cells #[.int .u8 0, .int .i64 0, .string ⟨#[]⟩] 26)).alloc (.cells #[.int .u8 111, .int .i64 0, .string ⟨#[]⟩] 26)) := ((Below.refl _ _).alloc (Nat.le_refl _) _).alloc (by simp) _
  have hk6 : Blk ((w.alloc (.cells #[.int .u8 0, .int .i64 0, .string ⟨#[]⟩] 26)).alloc (.cells #[.int .u8 111, .int .i64 0, .string ⟨#[]⟩] 26)) w.heap.size 26 #[.int .u8 0, .int .i64 0, .string ⟨#[]⟩] := (Blk.new _ _ _).alloc _
  have hk9 : Blk ((w.alloc (.cells #[.int .u8 0, .int .i64 0, .string ⟨#[]⟩] 26)).alloc (.cells #[.int .u8 111, .int .i64 0, .string ⟨#[]⟩] 26)) (w.heap.size + 1) 26 #[.int .u8 111, .int .i64 0, .string ⟨#[]⟩] := by
    have := Blk.new (w.alloc (.cells #[.int .u8 0, .int .i64 0, .string ⟨#[]⟩] 26)) 26 #[.int .u8 111, .int .i64 0, .string ⟨#[]⟩]
    rwa [World.size_alloc] at this
  have HB2 := Lib.hid hb2
  rw [← hg6] at hk6 hk9 ⊢
  have HK6 := Lib.hid hk6
  have HK9 := Lib.hid hk9
  clear hb2 hk6 hk9 hg6
  generalize ((w.alloc (.cells #[.int .u8 0, .int .i64 0, .string ⟨#[]⟩] 26)).alloc (.cells #[.int .u8 111, .int .i64 0, .string ⟨#[]⟩] 26)) = w2 at HB2 HK6 HK9 ⊢
  have HS2 := Lib.hid ((HS.out.below HB2.out).more HB2.out.size)
  have hgw : w.heap.size ≤ g6 := by have := HG6.out; omega
  by_cases he : getE bs a = 0
  · have hlen : a + 4 ≤ bs.length := by unfold getE at he; split at he; omega; split at he; omega; omega
    obtain ⟨x0, x1⟩ := leV_bd bs a
    obtain ⟨x, hx⟩ : ∃ x, leV bs a = x := ⟨_, rfl⟩
    rw [hx] at x0 x1
    have HX := Lib.hid hx
    have HLEN := Lib.hid hlen
    have HQ := Lib.hid he
    clear hx hlen he
    skip
    have HAE : Hid (argE 111 bs a = 0) := by show _ = _; unfold argE; rw [if_pos (by omega), HQ.out]
    refine (hrget_ok v bs a a rfl x HX.out w2 HS2.out HLEN.out).mono ?_
    rintro e w3 ⟨rfl, hb3⟩
    have HB3 := Lib.hid (HB2.out.trans (hb3.mono HB2.out.size))
    have hk6 := HK6.out.below hb3 HK6.out.lt
    have hk9 := HK9.out.below hb3 HK9.out.lt
    have c60 : w3.cell? ⟨g6, 0, none⟩ = some (.int .u8 0) := hk6.cell 0
    have f60 : w3.frozen? ⟨g6, 0, none⟩ = false := hk6.frozen 0
    have c61 : w3.cell? ⟨g6, 1, none⟩ = some (.int .i64 0) := hk6.cell 1
    have f61 : w3.frozen? ⟨g6, 1, none⟩ = false := hk6.frozen 1
    have c62 : w3.cell? ⟨g6, 2, none⟩ = some (.string ⟨#[]⟩) := hk6.cell 2
    have f62 : w3.frozen? ⟨g6, 2, none⟩ = false := hk6.frozen 2
    have c90 : w3.cell? ⟨g6 + 1, 0, none⟩ = some (.int .u8 111) := hk9.cell 0
    have f90 : w3.frozen? ⟨g6 + 1, 0, none⟩ = false := hk9.frozen 0
    have c91 : w3.cell? ⟨g6 + 1, 1, none⟩ = some (.int .i64 0) := hk9.cell 1
    have f91 : w3.frozen? ⟨g6 + 1, 1, none⟩ = false := hk9.frozen 1
    have c92 : w3.cell? ⟨g6 + 1, 2, none⟩ = some (.string ⟨#[]⟩) := hk9.cell 2
    have f92 : w3.frozen? ⟨g6 + 1, 2, none⟩ = false := hk9.frozen 2
    clear hb3 hk6 hk9
    go_wp2_with fail
    refine bodyPost_ret (v := .tuple #[.agg #[.int .u8 111, .int .i64 x, .string ⟨#[]⟩], .int .i64 ((a : Int) + 4), .int .i64 0]) (by simp [results, Tryd.results45, go_sem, *]) rfl ?_
    refine ⟨x, ⟨#[]⟩, _, by first | (rw [HAE.out]; done) | (rw [HAE.out]; rfl), ?_, ?_⟩
    · intro _; exact ⟨by unfold argN; rw [if_neg (by omega), if_pos (by omega), HX.out], by unfold argS; rw [if_neg (by omega), if_neg (by omega)], by unfold argX; rw [if_neg (by omega)]; rfl⟩
    · repeat (refine rbelow_set ?_ (by omega))
      exact HB3.out
  · obtain ⟨q, hq⟩ : ∃ q, q = getE bs a := ⟨_, rfl⟩
    have hv : getV bs a = 0 := by unfold getV; rw [if_neg he]
    have hae : argE 111 bs a = q := by unfold argE; rw [if_pos (by omega), hq]
    have hq2 := getE_le2 bs a
    rw [← hq] at he hq2
    have HQ := Lib.hid hq
    have HV := Lib.hid hv
    have HAE := Lib.hid hae
    have hq0 : 0 < q := by omega
    clear hq hv hae he
    have dq : ((q : Int) == 0) = false := by simp; omega
    refine (rget_any v bs a w2 HS2.out).mono ?_
    rintro e w3 ⟨rfl, hb3⟩
    rw [HV.out, ← HQ.out]
    have HB3 := Lib.hid (HB2.out.trans (hb3.mono HB2.out.size))
    have hk6 := HK6.out.below hb3 HK6.out.lt
    have hk9 := HK9.out.below hb3 HK9.out.lt
    have c60 : w3.cell? ⟨g6, 0, none⟩ = some (.int .u8 0) := hk6.cell 0
    have f60 : w3.frozen? ⟨g6, 0, none⟩ = false := hk6.frozen 0
    have c61 : w3.cell? ⟨g6, 1, none⟩ = some (.int .i64 0) := hk6.cell 1
    have f61 : w3.frozen? ⟨g6, 1, none⟩ = false := hk6.frozen 1
    have c62 : w3.cell? ⟨g6, 2, none⟩ = some (.string ⟨#[]⟩) := hk6.cell 2
    have f62 : w3.frozen? ⟨g6, 2, none⟩ = false := hk6.frozen 2
    have c90 : w3.cell? ⟨g6 + 1, 0, none⟩ = some (.int .u8 111) := hk9.cell 0
    have f90 : w3.frozen? ⟨g6 + 1, 0, none⟩ = false := hk9.frozen 0
    have c91 : w3.cell? ⟨g6 + 1, 1, none⟩ = some (.int .i64 0) := hk9.cell 1
    have f91 : w3.frozen? ⟨g6 + 1, 1, none⟩ = false := hk9.frozen 1
    have c92 : w3.cell? ⟨g6 + 1, 2, none⟩ = some (.string ⟨#[]⟩) := hk9.cell 2
    have f92 : w3.frozen? ⟨g6 + 1, 2, none⟩ = false := hk9.frozen 2
    clear hb3 hk6 hk9
    go_wp2_with fail
    refine bodyPost_ret (v := .tuple #[.agg #[.int .u8 111, .int .i64 0, .string ⟨#[]⟩], .int .i64 ((a : Int) + 4), .int .i64 q]) (by simp [results, Tryd.results45, go_sem, *]) rfl ?_
    refine ⟨0, ⟨#[]⟩, _, by first | (rw [HAE.out]; done) | (rw [HAE.out]; rfl), ?_, ?_⟩
    · intro hx; rw [HAE.out] at hx; omega
    · repeat (refine rbelow_set ?_ (by omega))
      exact HB3.out
set_option linter.unusedVariables false in
set_option maxHeartbeats 1000000 in
theorem rone_110 (v : Value) (bs : List UInt8) (a : Nat) (w : World) (h : Sl w w.heap.size v (bv bs)) (ha : a ≤ bs.length) (hl : bs.length ≤ 1000000000) :
    Calls Tryd.prog 45 #[v, .int .i64 a, .int .u8 110] w (ROnePost 110 bs a w) := by
  have HS := Lib.hid h
  have HA := Lib.hid ha
  have ha9 : (a : Int) ≤ 1000000000 := by omega
  obtain ⟨g6, hg6⟩ : ∃ g6, g6 = w.heap.size := ⟨_, rfl⟩
  have HG6 := Lib.hid hg6
  clear h ha hl
  go_enter Tryd.func45, Tryd.ntmps45
  go_wp2_with fail
  have hb2 : Below w.heap.size w ((w.alloc (.cells #[.int .u8 0, .int .i64 0, .string ⟨#[]⟩] 26)).alloc (.cells #[.int .u8 110, .int .i64 0, .string ⟨#[]⟩] 26)) := ((Below.refl _ _).alloc (Nat.le_refl _) _).alloc (by simp) _
  have hk6 : Blk ((w.alloc (.cells #[.int .u8 0, .int .i64 0, .string ⟨#[]⟩] 26)).alloc (.cells #[.int .u8 110, .int .i64 0, .string ⟨#[]⟩] 26)) w.heap.size 26 #[.int .u8 0, .int .i64 0, .string ⟨#[]⟩] := (Blk.new _ _ _).alloc _
  have hk9 : Blk ((w.alloc (.cells #[.int .u8 0, .int .i64 0, .string ⟨#[]⟩] 26)).alloc (.cells #[.int .u8 110, .int .i64 0, .string ⟨#[]⟩] 26)) (w.heap.size + 1) 26 #[.int .u8 110, .int .i64 0, .string ⟨#[]⟩] := by
    have := Blk.new (w.alloc (.cells #[.int .u8 0, .int .i64 0, .string ⟨#[]⟩] 26)) 26 #[.int .u8 110, .int .i64 0, .string ⟨#[]⟩]
    rwa [World.size_alloc] at this
  have HB2 := Lib.hid hb2
  rw [← hg6] at hk6 hk9 ⊢
  have HK6 := Lib.hid hk6
  have HK9 := Lib.hid hk9
  clear hb2 hk6 hk9 hg6
  generalize ((w.alloc (.cells #[.int .u8 0, .int .i64 0, .string ⟨#[]⟩] 26)).alloc (.cells #[.int .u8 110, .int .i64 0, .string ⟨#[]⟩] 26)) = w2 at HB2 HK6 HK9 ⊢
  have HS2 := Lib.hid ((HS.out.below HB2.out).more HB2.out.size)
  have hgw : w.heap.size ≤ g6 := by have := HG6.out; omega
  by_cases he : getE bs a = 0
  · have hlen : a + 4 ≤ bs.length := by unfold getE at he; split at he; omega; split at he; omega; omega
    obtain ⟨x0, x1⟩ := leV_bd bs a
    obtain ⟨x, hx⟩ : ∃ x, leV bs a = x := ⟨_, rfl⟩
    rw [hx] at x0 x1
    have HX := Lib.hid hx
    have HLEN := Lib.hid hlen
    have HQ := Lib.hid he
    clear hx hlen he
    by_cases hx3 : x = 0
    · subst hx3
      have HAE : Hid (argE 110 bs a = 3) := by show _ = _; unfold argE; rw [if_neg (by omega), if_pos rfl, if_neg (by rw [HQ.out]; omega), if_pos HX.out]
      refine (hrget_ok v bs a a rfl 0 HX.out w2 HS2.out HLEN.out).mono ?_
      rintro e w3 ⟨rfl, hb3⟩
      have HB3 := Lib.hid (HB2.out.trans (hb3.mono HB2.out.size))
      have hk6 := HK6.out.below hb3 HK6.out.lt
      have hk9 := HK9.out.below hb3 HK9.out.lt
      have c60 : w3.cell? ⟨g6, 0, none⟩ = some (.int .u8 0) := hk6.cell 0
      have f60 : w3.frozen? ⟨g6, 0, none⟩ = false := hk6.frozen 0
      have c61 : w3.cell? ⟨g6, 1, none⟩ = some (.int .i64 0) := hk6.cell 1
      have f61 : w3.frozen? ⟨g6, 1, none⟩ = false := hk6.frozen 1
      have c62 : w3.cell? ⟨g6, 2, none⟩ = some (.string ⟨#[]⟩) := hk6.cell 2
      have f62 : w3.frozen? ⟨g6, 2, none⟩ = false := hk6.frozen 2
      have c90 : w3.cell? ⟨g6 + 1, 0, none⟩ = some (.int .u8 110) := hk9.cell 0
      have f90 : w3.frozen? ⟨g6 + 1, 0, none⟩ = false := hk9.frozen 0
      have c91 : w3.cell? ⟨g6 + 1, 1, none⟩ = some (.int .i64 0) := hk9.cell 1
      have f91 : w3.frozen? ⟨g6 + 1, 1, none⟩ = false := hk9.frozen 1
      have c92 : w3.cell? ⟨g6 + 1, 2, none⟩ = some (.string ⟨#[]⟩) := hk9.cell 2
      have f92 : w3.frozen? ⟨g6 + 1, 2, none⟩ = false := hk9.frozen 2
      clear hb3 hk6 hk9
      go_wp2_with fail
      refine bodyPost_ret (v := .tuple #[.agg #[.int .u8 110, .int .i64 0, .string ⟨#[]⟩], .int .i64 ((a : Int) + 4), .int .i64 3]) (by simp [results, Tryd.results45, go_sem, *]) rfl ?_
      refine ⟨0, ⟨#[]⟩, _, by first | (rw [HAE.out]; done) | (rw [HAE.out]; rfl), ?_, ?_⟩
      · intro hx; rw [HAE.out] at hx; omega
      · repeat (refine rbelow_set ?_ (by omega))
        exact HB3.out
    · have hx4 : 1 ≤ x := by omega
      have dx : (x == 0) = false := by simp; omega
      have HAE : Hid (argE 110 bs a = 0) := by show _ = _; unfold argE; rw [if_neg (by omega), if_pos rfl, if_neg (by rw [HQ.out]; omega), if_neg (by rw [HX.out]; omega)]
      refine (hrget_ok v bs a a rfl x HX.out w2 HS2.out HLEN.out).mono ?_
      rintro e w3 ⟨rfl, hb3⟩
      have HB3 := Lib.hid (HB2.out.trans (hb3.mono HB2.out.size))
      have hk6 := HK6.out.below hb3 HK6.out.lt
      have hk9 := HK9.out.below hb3 HK9.out.lt
      have c60 : w3.cell? ⟨g6, 0, none⟩ = some (.int .u8 0) := hk6.cell 0
      have f60 : w3.frozen? ⟨g6, 0, none⟩ = false := hk6.frozen 0
      have c61 : w3.cell? ⟨g6, 1, none⟩ = some (.int .i64 0) := hk6.cell 1
      have f61 : w3.frozen? ⟨g6, 1, none⟩ = false := hk6.frozen 1
      have c62 : w3.cell? ⟨g6, 2, none⟩ = some (.string ⟨#[]⟩) := hk6.cell 2
      have f62 : w3.frozen? ⟨g6, 2, none⟩ = false := hk6.frozen 2
      have c90 : w3.cell? ⟨g6 + 1, 0, none⟩ = some (.int .u8 110) := hk9.cell 0
      have f90 : w3.frozen? ⟨g6 + 1, 0, none⟩ = false := hk9.frozen 0
      have c91 : w3.cell? ⟨g6 + 1, 1, none⟩ = some (.int .i64 0) := hk9.cell 1
      have f91 : w3.frozen? ⟨g6 + 1, 1, none⟩ = false := hk9.frozen 1
      have c92 : w3.cell? ⟨g6 + 1, 2, none⟩ = some (.string ⟨#[]⟩) := hk9.cell 2
      have f92 : w3.frozen? ⟨g6 + 1, 2, none⟩ = false := hk9.frozen 2
      clear hb3 hk6 hk9
      go_wp2_with fail
      refine bodyPost_ret (v := .tuple #[.agg #[.int .u8 110, .int .i64 x, .string ⟨#[]⟩], .int .i64 ((a : Int) + 4), .int .i64 0]) (by simp [results, Tryd.results45, go_sem, *]) rfl ?_
      refine ⟨x, ⟨#[]⟩, _, by first | (rw [HAE.out]; done) | (rw [HAE.out]; rfl), ?_, ?_⟩
      · intro _; exact ⟨by unfold argN; rw [if_neg (by omega), if_pos (by omega), HX.out], by unfold argS; rw [if_neg (by omega), if_neg (by omega)], by unfold argX; rw [if_neg (by omega)]; rfl⟩
      · repeat (refine rbelow_set ?_ (by omega))
        exact HB3.out
  · obtain ⟨q, hq⟩ : ∃ q, q = getE bs a := ⟨_, rfl⟩
    have hv : getV bs a = 0 := by unfold getV; rw [if_neg he]
    have hae : argE 110 bs a = q := by unfold argE; rw [if_neg (by omega), if_pos rfl, if_pos he, hq]
    have hq2 := getE_le2 bs a
    rw [← hq] at he hq2
    have HQ := Lib.hid hq
    have HV := Lib.hid hv
    have HAE := Lib.hid hae
    have hq0 : 0 < q := by omega
    clear hq hv hae he
    have dq : ((q : Int) == 0) = false := by simp; omega
    refine (rget_any v bs a w2 HS2.out).mono ?_
    rintro e w3 ⟨rfl, hb3⟩
    rw [HV.out, ← HQ.out]
    have HB3 := Lib.hid (HB2.out.trans (hb3.mono HB2.out.size))
    have hk6 := HK6.out.below hb3 HK6.out.lt
    have hk9 := HK9.out.below hb3 HK9.out.lt
    have c60 : w3.cell? ⟨g6, 0, none⟩ = some (.int .u8 0) := hk6.cell 0
    have f60 : w3.frozen? ⟨g6, 0, none⟩ = false := hk6.frozen 0
    have c61 : w3.cell? ⟨g6, 1, none⟩ = some (.int .i64 0) := hk6.cell 1
    have f61 : w3.frozen? ⟨g6, 1, none⟩ = false := hk6.frozen 1
    have c62 : w3.cell? ⟨g6, 2, none⟩ = some (.string ⟨#[]⟩) := hk6.cell 2
    have f62 : w3.frozen? ⟨g6, 2, none⟩ = false := hk6.frozen 2
    have c90 : w3.cell? ⟨g6 + 1, 0, none⟩ = some (.int .u8 110) := hk9.cell 0
    have f90 : w3.frozen? ⟨g6 + 1, 0, none⟩ = false := hk9.frozen 0
    have c91 : w3.cell? ⟨g6 + 1, 1, none⟩ = some (.int .i64 0) := hk9.cell 1
    have f91 : w3.frozen? ⟨g6 + 1, 1, none⟩ = false := hk9.frozen 1
    have c92 : w3.cell? ⟨g6 + 1, 2, none⟩ = some (.string ⟨#[]⟩) := hk9.cell 2
    have f92 : w3.frozen? ⟨g6 + 1, 2, none⟩ = false := hk9.frozen 2
    clear hb3 hk6 hk9
    go_wp2_with fail
    refine bodyPost_ret (v := .tuple #[.agg #[.int .u8 110, .int .i64 0, .string ⟨#[]⟩], .int .i64 ((a : Int) + 4), .int .i64 q]) (by simp [results, Tryd.results45, go_sem, *]) rfl ?_
    refine ⟨0, ⟨#[]⟩, _, by first | (rw [HAE.out]; done) | (rw [HAE.out]; rfl), ?_, ?_⟩
    · intro hx; rw [HAE.out] at hx; omega
    · repeat (refine rbelow_set ?_ (by omega))
      exact HB3.out
set_option linter.unusedVariables false in
set_option maxHeartbeats 1000000 in
theorem rone_115 (v : Value) (bs : List UInt8) (a : Nat) (w : World) (h : Sl w w.heap.size v (bv bs)) (ha : a ≤ bs.length) (hl : bs.length ≤ 1000000000) :
    Calls Tryd.prog 45 #[v, .int .i64 a, .int .u8 115] w (ROnePost 115 bs a w) := by
  have HS := Lib.hid h
  have HA := Lib.hid ha
  have ha9 : (a : Int) ≤ 1000000000 := by omega
  obtain ⟨g6, hg6⟩ : ∃ g6, g6 = w.heap.size := ⟨_, rfl⟩
  have HG6 := Lib.hid hg6
  clear h ha hl
  go_enter Tryd.func45, Tryd.ntmps45
  go_wp2_with fail
  have hb2 : Below w.heap.size w ((w.alloc (.cells #[.int .u8 0, .int .i64 0, .string ⟨#[]⟩] 26)).alloc (.cells #[.int .u8 115, .int .i64 0, .string ⟨#[]⟩] 26)) := ((Below.refl _ _).alloc (Nat.le_refl _) _).alloc (by simp) _
  have hk6 : Blk ((w.alloc (.cells #[.int .u8 0, .int .i64 0, .string ⟨#[]⟩] 26)).alloc (.cells #[.int .u8 115, .int .i64 0, .string ⟨#[]⟩] 26)) w.heap.size 26 #[.int .u8 0, .int .i64 0, .string ⟨#[]⟩] := (Blk.new _ _ _).alloc _
  have hk9 : Blk ((w.alloc (.cells #[.int .u8 0, .int .i64 0, .string ⟨#[]⟩] 26)).alloc (.cells #[.int .u8 115, .int .i64 0, .string ⟨#[]⟩] 26)) (w.heap.size + 1) 26 #[.int .u8 115, .int .i64 0, .string ⟨#[]⟩] := by
    have := Blk.new (w.alloc (.cells #[.int .u8 0, .int .i64 0, .string ⟨#[]⟩] 26)) 26 #[.int .u8 115, .int .i64 0, .string ⟨#[]⟩]
    rwa [World.size_alloc] at this
  have HB2 := Lib.hid hb2
  rw [← hg6] at hk6 hk9 ⊢
  have HK6 := Lib.hid hk6
  have HK9 := Lib.hid hk9
  clear hb2 hk6 hk9 hg6
  generalize ((w.alloc (.cells #[.int .u8 0, .int .i64 0, .string ⟨#[]⟩] 26)).alloc (.cells #[.int .u8 115, .int .i64 0, .string ⟨#[]⟩] 26)) = w2 at HB2 HK6 HK9 ⊢
  have HS2 := Lib.hid ((HS.out.below HB2.out).more HB2.out.size)
  have hgw : w.heap.size ≤ g6 := by have := HG6.out; omega
  by_cases he : textE bs a = 0
  · have hres : rtextR bs a = .tuple #[.string (strB (gotS bs a).dropLast), .int .i64 (gotN bs a), .int .i64 0] := by unfold rtextR; rw [if_pos he]
    have HRES := Lib.hid hres
    have hs96 : (gotS bs a).dropLast.length ≤ 4096 := by
      have := (gotS_length bs a 1 (by unfold textE at he; split at he <;> omega)).2.2.1
      rw [List.length_dropLast]; omega
    obtain ⟨s, hs⟩ : ∃ s, s = strB (gotS bs a).dropLast := ⟨_, rfl⟩
    have hsz : s.size = (gotS bs a).dropLast.length := by rw [hs, strB_size]
    rw [← hsz] at hs96
    rw [← hs] at HRES
    have HS9 := Lib.hid hs
    have HSZL := Lib.hid hsz
    have HQ := Lib.hid he
    obtain ⟨nx, hnx⟩ : ∃ nx, nx = gotN bs a := ⟨_, rfl⟩
    rw [← hnx] at HRES
    have HNX := Lib.hid hnx
    have HSZ : Hid (s.size ≤ 140737488351232) := by show _ ≤ _; omega
    have hz : Lib.indexByte s.data.toList 0 < 0 := by
      rw [hs, strB_toList]
      have hl := (gotS_length bs a 1 (by unfold textE at he; split at he <;> omega)).2.1
      have hok : textOk (gotS bs a) := by unfold textE at he; split at he; omega; split at he; assumption; omega
      obtain ⟨a2, e2, e3⟩ := textOk_last (gotS bs a) (by intro h0; rw [h0] at hl; simp at hl) hok
      rw [e2, List.dropLast_concat, indexByte_none a2 e3]; omega
    have HZ := Lib.hid hz
    clear hz
    clear hres hs hsz he hnx
    by_cases h200 : s.size ≤ 200
    · skip
      have h200 : s.size ≤ 200 := by omega
      have HAE : Hid (argE 115 bs a = 0) := by show _ = _; unfold argE; rw [if_neg (by omega), if_neg (by omega), if_pos rfl, if_neg (by rw [HQ.out]; omega), if_neg (by rw [← HSZL.out]; omega)]
      have d200 : decide (200 < (s.size : Int)) = false := by simp; omega
      refine (rgetText_any v bs a w2 HS2.out).mono ?_
      rintro e w3 ⟨rfl, hb3⟩
      rw [HRES.out]
      have HB3 := Lib.hid (HB2.out.trans (hb3.mono HB2.out.size))
      have hk6 := HK6.out.below hb3 HK6.out.lt
      have hk9 := HK9.out.below hb3 HK9.out.lt
      have c60 : w3.cell? ⟨g6, 0, none⟩ = some (.int .u8 0) := hk6.cell 0
      have f60 : w3.frozen? ⟨g6, 0, none⟩ = false := hk6.frozen 0
      have c61 : w3.cell? ⟨g6, 1, none⟩ = some (.int .i64 0) := hk6.cell 1
      have f61 : w3.frozen? ⟨g6, 1, none⟩ = false := hk6.frozen 1
      have c62 : w3.cell? ⟨g6, 2, none⟩ = some (.string ⟨#[]⟩) := hk6.cell 2
      have f62 : w3.frozen? ⟨g6, 2, none⟩ = false := hk6.frozen 2
      have c90 : w3.cell? ⟨g6 + 1, 0, none⟩ = some (.int .u8 115) := hk9.cell 0
      have f90 : w3.frozen? ⟨g6 + 1, 0, none⟩ = false := hk9.frozen 0
      have c91 : w3.cell? ⟨g6 + 1, 1, none⟩ = some (.int .i64 0) := hk9.cell 1
      have f91 : w3.frozen? ⟨g6 + 1, 1, none⟩ = false := hk9.frozen 1
      have c92 : w3.cell? ⟨g6 + 1, 2, none⟩ = some (.string ⟨#[]⟩) := hk9.cell 2
      have f92 : w3.frozen? ⟨g6 + 1, 2, none⟩ = false := hk9.frozen 2
      clear hb3 hk6 hk9
      go_wp2_with fail
      refine bodyPost_ret (v := .tuple #[.agg #[.int .u8 115, .int .i64 0, .string s], .int .i64 nx, .int .i64 0]) (by simp [results, Tryd.results45, go_sem, *]) rfl ?_
      refine ⟨0, s, _, by first | (rw [HAE.out]; done) | (rw [HAE.out]; rfl), ?_, ?_⟩
      · intro _; exact ⟨by unfold argN; rw [if_neg (by omega), if_neg (by omega)], by unfold argS; rw [if_pos rfl, HS9.out], by unfold argX; rw [if_pos (by omega), HNX.out]⟩
      · repeat (refine rbelow_set ?_ (by omega))
        exact HB3.out
    · skip
      have h200 : 200 < s.size := by omega
      have HAE : Hid (argE 115 bs a = 3) := by show _ = _; unfold argE; rw [if_neg (by omega), if_neg (by omega), if_pos rfl, if_neg (by rw [HQ.out]; omega), if_pos (by rw [← HSZL.out]; omega)]
      have d200 : decide (200 < (s.size : Int)) = true := by simp; omega
      refine (rgetText_any v bs a w2 HS2.out).mono ?_
      rintro e w3 ⟨rfl, hb3⟩
      rw [HRES.out]
      have HB3 := Lib.hid (HB2.out.trans (hb3.mono HB2.out.size))
      have hk6 := HK6.out.below hb3 HK6.out.lt
      have hk9 := HK9.out.below hb3 HK9.out.lt
      have c60 : w3.cell? ⟨g6, 0, none⟩ = some (.int .u8 0) := hk6.cell 0
      have f60 : w3.frozen? ⟨g6, 0, none⟩ = false := hk6.frozen 0
      have c61 : w3.cell? ⟨g6, 1, none⟩ = some (.int .i64 0) := hk6.cell 1
      have f61 : w3.frozen? ⟨g6, 1, none⟩ = false := hk6.frozen 1
      have c62 : w3.cell? ⟨g6, 2, none⟩ = some (.string ⟨#[]⟩) := hk6.cell 2
      have f62 : w3.frozen? ⟨g6, 2, none⟩ = false := hk6.frozen 2
      have c90 : w3.cell? ⟨g6 + 1, 0, none⟩ = some (.int .u8 115) := hk9.cell 0
      have f90 : w3.frozen? ⟨g6 + 1, 0, none⟩ = false := hk9.frozen 0
      have c91 : w3.cell? ⟨g6 + 1, 1, none⟩ = some (.int .i64 0) := hk9.cell 1
      have f91 : w3.frozen? ⟨g6 + 1, 1, none⟩ = false := hk9.frozen 1
      have c92 : w3.cell? ⟨g6 + 1, 2, none⟩ = some (.string ⟨#[]⟩) := hk9.cell 2
      have f92 : w3.frozen? ⟨g6 + 1, 2, none⟩ = false := hk9.frozen 2
      clear hb3 hk6 hk9
      go_wp2_with fail
      refine bodyPost_ret (v := .tuple #[.agg #[.int .u8 115, .int .i64 0, .string s], .int .i64 nx, .int .i64 3]) (by simp [results, Tryd.results45, go_sem, *]) rfl ?_
      refine ⟨0, s, _, by first | (rw [HAE.out]; done) | (rw [HAE.out]; rfl), ?_, ?_⟩
      · intro hx; rw [HAE.out] at hx; omega
      · repeat (refine rbelow_set ?_ (by omega))
        exact HB3.out
  · obtain ⟨q, hq⟩ : ∃ q, q = textE bs a := ⟨_, rfl⟩
    have hae : argE 115 bs a = q := by unfold argE; rw [if_neg (by omega), if_neg (by omega), if_pos rfl, if_pos he, hq]
    have hres : rtextR bs a = .tuple #[.string (strB []), .int .i64 0, .int .i64 q] := by unfold rtextR; rw [if_neg he, hq]
    rw [← hq] at he
    have HAE := Lib.hid hae
    have HRES := Lib.hid hres
    have hq0 : 0 < q := by omega
    have hq4 : q ≤ 4 := by rw [hq]; exact textE_le bs a
    clear hq hae he hres
    have dq : ((q : Int) == 0) = false := by simp; omega
    refine (rgetText_any v bs a w2 HS2.out).mono ?_
    rintro e w3 ⟨rfl, hb3⟩
    rw [HRES.out]
    have HB3 := Lib.hid (HB2.out.trans (hb3.mono HB2.out.size))
    have hk6 := HK6.out.below hb3 HK6.out.lt
    have hk9 := HK9.out.below hb3 HK9.out.lt
    have c60 : w3.cell? ⟨g6, 0, none⟩ = some (.int .u8 0) := hk6.cell 0
    have f60 : w3.frozen? ⟨g6, 0, none⟩ = false := hk6.frozen 0
    have c61 : w3.cell? ⟨g6, 1, none⟩ = some (.int .i64 0) := hk6.cell 1
    have f61 : w3.frozen? ⟨g6, 1, none⟩ = false := hk6.frozen 1
    have c62 : w3.cell? ⟨g6, 2, none⟩ = some (.string ⟨#[]⟩) := hk6.cell 2
    have f62 : w3.frozen? ⟨g6, 2, none⟩ = false := hk6.frozen 2
    have c90 : w3.cell? ⟨g6 + 1, 0, none⟩ = some (.int .u8 115) := hk9.cell 0
    have f90 : w3.frozen? ⟨g6 + 1, 0, none⟩ = false := hk9.frozen 0
    have c91 : w3.cell? ⟨g6 + 1, 1, none⟩ = some (.int .i64 0) := hk9.cell 1
    have f91 : w3.frozen? ⟨g6 + 1, 1, none⟩ = false := hk9.frozen 1
    have c92 : w3.cell? ⟨g6 + 1, 2, none⟩ = some (.string ⟨#[]⟩) := hk9.cell 2
    have f92 : w3.frozen? ⟨g6 + 1, 2, none⟩ = false := hk9.frozen 2
    clear hb3 hk6 hk9
    go_wp2_with fail
    refine bodyPost_ret (v := .tuple #[.agg #[.int .u8 115, .int .i64 0, .string (strB [])], .int .i64 0, .int .i64 q]) (by simp [results, Tryd.results45, go_sem, *]) rfl ?_
    refine ⟨0, _, _, by first | (rw [HAE.out]; done) | (rw [HAE.out]; rfl), ?_, ?_⟩
    · intro hx; rw [HAE.out] at hx; omega
    · repeat (refine rbelow_set ?_ (by omega))
      exact HB3.out
set_option linter.unusedVariables false in
set_option maxHeartbeats 1000000 in
theorem rone_97 (v : Value) (bs : List UInt8) (a : Nat) (w : World) (h : Sl w w.heap.size v (bv bs)) (ha : a ≤ bs.length) (hl : bs.length ≤ 1000000000) :
    Calls Tryd.prog 45 #[v, .int .i64 a, .int .u8 97] w (ROnePost 97 bs a w) := by
  have HS := Lib.hid h
  have HA := Lib.hid ha
  have ha9 : (a : Int) ≤ 1000000000 := by omega
  obtain ⟨g6, hg6⟩ : ∃ g6, g6 = w.heap.size := ⟨_, rfl⟩
  have HG6 := Lib.hid hg6
  clear h ha hl
  go_enter Tryd.func45, Tryd.ntmps45
  go_wp2_with fail
  have hb2 : Below w.heap.size w ((w.alloc (.cells #[.int .u8 0, .int .i64 0, .string ⟨#[]⟩] 26)).alloc (.cells #[.int .u8 97, .int .i64 0, .string ⟨#[]⟩] 26)) := ((Below.refl _ _).alloc (Nat.le_refl _) _).alloc (by simp) _
  have hk6 : Blk ((w.alloc (.cells #[.int .u8 0, .int .i64 0, .string ⟨#[]⟩] 26)).alloc (.cells #[.int .u8 97, .int .i64 0, .string ⟨#[]⟩] 26)) w.heap.size 26 #[.int .u8 0, .int .i64 0, .string ⟨#[]⟩] := (Blk.new _ _ _).alloc _
  have hk9 : Blk ((w.alloc (.cells #[.int .u8 0, .int .i64 0, .string ⟨#[]⟩] 26)).alloc (.cells #[.int .u8 97, .int .i64 0, .string ⟨#[]⟩] 26)) (w.heap.size + 1) 26 #[.int .u8 97, .int .i64 0, .string ⟨#[]⟩] := by
    have := Blk.new (w.alloc (.cells #[.int .u8 0, .int .i64 0, .string ⟨#[]⟩] 26)) 26 #[.int .u8 97, .int .i64 0, .string ⟨#[]⟩]
    rwa [World.size_alloc] at this
  have HB2 := Lib.hid hb2
  rw [← hg6] at hk6 hk9 ⊢
  have HK6 := Lib.hid hk6
  have HK9 := Lib.hid hk9
  clear hb2 hk6 hk9 hg6
  generalize ((w.alloc (.cells #[.int .u8 0, .int .i64 0, .string ⟨#[]⟩] 26)).alloc (.cells #[.int .u8 97, .int .i64 0, .string ⟨#[]⟩] 26)) = w2 at HB2 HK6 HK9 ⊢
  have HS2 := Lib.hid ((HS.out.below HB2.out).more HB2.out.size)
  have hgw : w.heap.size ≤ g6 := by have := HG6.out; omega
  by_cases he : gotE bs a 0 = 0
  · have hres : rgotR bs a = .tuple #[.string (strB (gotS bs a)), .int .i64 (gotN bs a), .int .i64 0] := by unfold rgotR; rw [if_pos he]
    have HRES := Lib.hid hres
    have hs96 : (gotS bs a).length ≤ 4096 := by
      have := (gotS_length bs a 0 he).2.2.1
      exact this
    obtain ⟨s, hs⟩ : ∃ s, s = strB (gotS bs a) := ⟨_, rfl⟩
    have hsz : s.size = (gotS bs a).length := by rw [hs, strB_size]
    rw [← hsz] at hs96
    rw [← hs] at HRES
    have HS9 := Lib.hid hs
    have HSZL := Lib.hid hsz
    have HQ := Lib.hid he
    obtain ⟨nx, hnx⟩ : ∃ nx, nx = gotN bs a := ⟨_, rfl⟩
    rw [← hnx] at HRES
    have HNX := Lib.hid hnx
    have HSZ : Hid (s.size ≤ 140737488351232) := by show _ ≤ _; omega
    clear hres hs hsz he hnx
    by_cases h200 : s.size ≤ 200
    · skip
      have h200 : s.size ≤ 200 := by omega
      have HAE : Hid (argE 97 bs a = 0) := by show _ = _; unfold argE; rw [if_neg (by omega), if_neg (by omega), if_neg (by omega), if_pos rfl, if_neg (by rw [HQ.out]; omega), if_neg (by rw [← HSZL.out]; omega)]
      have d200 : decide (200 < (s.size : Int)) = false := by simp; omega
      refine (rgetList_any v bs a w2 HS2.out).mono ?_
      rintro e w3 ⟨rfl, hb3⟩
      rw [HRES.out]
      have HB3 := Lib.hid (HB2.out.trans (hb3.mono HB2.out.size))
      have hk6 := HK6.out.below hb3 HK6.out.lt
      have hk9 := HK9.out.below hb3 HK9.out.lt
      have c60 : w3.cell? ⟨g6, 0, none⟩ = some (.int .u8 0) := hk6.cell 0
      have f60 : w3.frozen? ⟨g6, 0, none⟩ = false := hk6.frozen 0
      have c61 : w3.cell? ⟨g6, 1, none⟩ = some (.int .i64 0) := hk6.cell 1
      have f61 : w3.frozen? ⟨g6, 1, none⟩ = false := hk6.frozen 1
      have c62 : w3.cell? ⟨g6, 2, none⟩ = some (.string ⟨#[]⟩) := hk6.cell 2
      have f62 : w3.frozen? ⟨g6, 2, none⟩ = false := hk6.frozen 2
      have c90 : w3.cell? ⟨g6 + 1, 0, none⟩ = some (.int .u8 97) := hk9.cell 0
      have f90 : w3.frozen? ⟨g6 + 1, 0, none⟩ = false := hk9.frozen 0
      have c91 : w3.cell? ⟨g6 + 1, 1, none⟩ = some (.int .i64 0) := hk9.cell 1
      have f91 : w3.frozen? ⟨g6 + 1, 1, none⟩ = false := hk9.frozen 1
      have c92 : w3.cell? ⟨g6 + 1, 2, none⟩ = some (.string ⟨#[]⟩) := hk9.cell 2
      have f92 : w3.frozen? ⟨g6 + 1, 2, none⟩ = false := hk9.frozen 2
      clear hb3 hk6 hk9
      go_wp2_with fail
      refine bodyPost_ret (v := .tuple #[.agg #[.int .u8 97, .int .i64 0, .string s], .int .i64 nx, .int .i64 0]) (by simp [results, Tryd.results45, go_sem, *]) rfl ?_
      refine ⟨0, s, _, by first | (rw [HAE.out]; done) | (rw [HAE.out]; rfl), ?_, ?_⟩
      · intro _; exact ⟨by unfold argN; rw [if_neg (by omega), if_neg (by omega)], by unfold argS; rw [if_neg (by omega), if_pos rfl, HS9.out], by unfold argX; rw [if_pos (by omega), HNX.out]⟩
      · repeat (refine rbelow_set ?_ (by omega))
        exact HB3.out
    · skip
      have h200 : 200 < s.size := by omega
      have HAE : Hid (argE 97 bs a = 3) := by show _ = _; unfold argE; rw [if_neg (by omega), if_neg (by omega), if_neg (by omega), if_pos rfl, if_neg (by rw [HQ.out]; omega), if_pos (by rw [← HSZL.out]; omega)]
      have d200 : decide (200 < (s.size : Int)) = true := by simp; omega
      refine (rgetList_any v bs a w2 HS2.out).mono ?_
      rintro e w3 ⟨rfl, hb3⟩
      rw [HRES.out]
      have HB3 := Lib.hid (HB2.out.trans (hb3.mono HB2.out.size))
      have hk6 := HK6.out.below hb3 HK6.out.lt
      have hk9 := HK9.out.below hb3 HK9.out.lt
      have c60 : w3.cell? ⟨g6, 0, none⟩ = some (.int .u8 0) := hk6.cell 0
      have f60 : w3.frozen? ⟨g6, 0, none⟩ = false := hk6.frozen 0
      have c61 : w3.cell? ⟨g6, 1, none⟩ = some (.int .i64 0) := hk6.cell 1
      have f61 : w3.frozen? ⟨g6, 1, none⟩ = false := hk6.frozen 1
      have c62 : w3.cell? ⟨g6, 2, none⟩ = some (.string ⟨#[]⟩) := hk6.cell 2
      have f62 : w3.frozen? ⟨g6, 2, none⟩ = false := hk6.frozen 2
      have c90 : w3.cell? ⟨g6 + 1, 0, none⟩ = some (.int .u8 97) := hk9.cell 0
      have f90 : w3.frozen? ⟨g6 + 1, 0, none⟩ = false := hk9.frozen 0
      have c91 : w3.cell? ⟨g6 + 1, 1, none⟩ = some (.int .i64 0) := hk9.cell 1
      have f91 : w3.frozen? ⟨g6 + 1, 1, none⟩ = false := hk9.frozen 1
      have c92 : w3.cell? ⟨g6 + 1, 2, none⟩ = some (.string ⟨#[]⟩) := hk9.cell 2
      have f92 : w3.frozen? ⟨g6 + 1, 2, none⟩ = false := hk9.frozen 2
      clear hb3 hk6 hk9
      go_wp2_with fail
      refine bodyPost_ret (v := .tuple #[.agg #[.int .u8 97, .int .i64 0, .string s], .int .i64 nx, .int .i64 3]) (by simp [results, Tryd.results45, go_sem, *]) rfl ?_
      refine ⟨0, s, _, by first | (rw [HAE.out]; done) | (rw [HAE.out]; rfl), ?_, ?_⟩
      · intro hx; rw [HAE.out] at hx; omega
      · repeat (refine rbelow_set ?_ (by omega))
        exact HB3.out
  · obtain ⟨q, hq⟩ : ∃ q, q = gotE bs a 0 := ⟨_, rfl⟩
    have hae : argE 97 bs a = q := by unfold argE; rw [if_neg (by omega), if_neg (by omega), if_neg (by omega), if_pos rfl, if_pos he, hq]
    have hres : rgotR bs a = .tuple #[.string (strB []), .int .i64 0, .int .i64 q] := by unfold rgotR; rw [if_neg he, hq]
    rw [← hq] at he
    have HAE := Lib.hid hae
    have HRES := Lib.hid hres
    have hq0 : 0 < q := by omega
    have hq4 : q ≤ 4 := by rw [hq]; exact gotE_le bs a 0
    clear hq hae he hres
    have dq : ((q : Int) == 0) = false := by simp; omega
    refine (rgetList_any v bs a w2 HS2.out).mono ?_
    rintro e w3 ⟨rfl, hb3⟩
    rw [HRES.out]
    have HB3 := Lib.hid (HB2.out.trans (hb3.mono HB2.out.size))
    have hk6 := HK6.out.below hb3 HK6.out.lt
    have hk9 := HK9.out.below hb3 HK9.out.lt
    have c60 : w3.cell? ⟨g6, 0, none⟩ = some (.int .u8 0) := hk6.cell 0
    have f60 : w3.frozen? ⟨g6, 0, none⟩ = false := hk6.frozen 0
    have c61 : w3.cell? ⟨g6, 1, none⟩ = some (.int .i64 0) := hk6.cell 1
    have f61 : w3.frozen? ⟨g6, 1, none⟩ = false := hk6.frozen 1
    have c62 : w3.cell? ⟨g6, 2, none⟩ = some (.string ⟨#[]⟩) := hk6.cell 2
    have f62 : w3.frozen? ⟨g6, 2, none⟩ = false := hk6.frozen 2
    have c90 : w3.cell? ⟨g6 + 1, 0, none⟩ = some (.int .u8 97) := hk9.cell 0
    have f90 : w3.frozen? ⟨g6 + 1, 0, none⟩ = false := hk9.frozen 0
    have c91 : w3.cell? ⟨g6 + 1, 1, none⟩ = some (.int .i64 0) := hk9.cell 1
    have f91 : w3.frozen? ⟨g6 + 1, 1, none⟩ = false := hk9.frozen 1
    have c92 : w3.cell? ⟨g6 + 1, 2, none⟩ = some (.string ⟨#[]⟩) := hk9.cell 2
    have f92 : w3.frozen? ⟨g6 + 1, 2, none⟩ = false := hk9.frozen 2
    clear hb3 hk6 hk9
    go_wp2_with fail
    refine bodyPost_ret (v := .tuple #[.agg #[.int .u8 97, .int .i64 0, .string (strB [])], .int .i64 0, .int .i64 q]) (by simp [results, Tryd.results45, go_sem, *]) rfl ?_
    refine ⟨0, _, _, by first | (rw [HAE.out]; done) | (rw [HAE.out]; rfl), ?_, ?_⟩
    · intro hx; rw [HAE.out] at hx; omega
    · repeat (refine rbelow_set ?_ (by omega))
      exact HB3.out
set_option linter.unusedVariables false in
set_option maxHeartbeats 1000000 in
theorem rone_other (k : Int) (hk : k ≠ 105 ∧ k ≠ 102 ∧ k ≠ 117 ∧ k ≠ 111 ∧ k ≠ 110 ∧ k ≠ 115 ∧ k ≠ 97) (v : Value) (bs : List UInt8) (a : Nat) (w : World) (h : Sl w w.heap.size v (bv bs)) (ha : a ≤ bs.length) (hl : bs.length ≤ 1000000000) :
    Calls Tryd.prog 45 #[v, .int .i64 a, .int .u8 k] w (ROnePost k bs a w) := by
  obtain ⟨d1, d2, d3, d4, d5, d6, d7⟩ := hk
  have e0 : (k == 105) = false := by simp; omega
  have e1 : (k == 102) = false := by simp; omega
  have e2 : (k == 117) = false := by simp; omega
  have e3 : (k == 111) = false := by simp; omega
  have e4 : (k == 110) = false := by simp; omega
  have e5 : (k == 115) = false := by simp; omega
  have e6 : (k == 97) = false := by simp; omega
  have hae : argE k bs a = 1 := by unfold argE; rw [if_neg (by omega), if_neg (by omega), if_neg (by omega), if_neg (by omega)]
  have HAE := Lib.hid hae
  clear d1 d2 d3 d4 d5 d6 d7 hae
  have HS := Lib.hid h
  have HA := Lib.hid ha
  have ha9 : (a : Int) ≤ 1000000000 := by omega
  obtain ⟨g6, hg6⟩ : ∃ g6, g6 = w.heap.size := ⟨_, rfl⟩
  have HG6 := Lib.hid hg6
  clear h ha hl
  go_enter Tryd.func45, Tryd.ntmps45
  go_upto_region 5 with (fail)
  have hb2 : Below w.heap.size w ((w.alloc (.cells #[.int .u8 0, .int .i64 0, .string ⟨#[]⟩] 26)).alloc (.cells #[.int .u8 k, .int .i64 0, .string ⟨#[]⟩] 26)) := ((Below.refl _ _).alloc (Nat.le_refl _) _).alloc (by simp) _
  have hk6 : Blk ((w.alloc (.cells #[.int .u8 0, .int .i64 0, .string ⟨#[]⟩] 26)).alloc (.cells #[.int .u8 k, .int .i64 0, .string ⟨#[]⟩] 26)) w.heap.size 26 #[.int .u8 0, .int .i64 0, .string ⟨#[]⟩] := (Blk.new _ _ _).alloc _
  have hk9 : Blk ((w.alloc (.cells #[.int .u8 0, .int .i64 0, .string ⟨#[]⟩] 26)).alloc (.cells #[.int .u8 k, .int .i64 0, .string ⟨#[]⟩] 26)) (w.heap.size + 1) 26 #[.int .u8 k, .int .i64 0, .string ⟨#[]⟩] := by
    have := Blk.new (w.alloc (.cells #[.int .u8 0, .int .i64 0, .string ⟨#[]⟩] 26)) 26 #[.int .u8 k, .int .i64 0, .string ⟨#[]⟩]
    rwa [World.size_alloc] at this
  have HB2 := Lib.hid hb2
  rw [← hg6] at hk6 hk9 ⊢
  have HK6 := Lib.hid hk6
  have HK9 := Lib.hid hk9
  clear hb2 hk6 hk9 hg6
  generalize ((w.alloc (.cells #[.int .u8 0, .int .i64 0, .string ⟨#[]⟩] 26)).alloc (.cells #[.int .u8 k, .int .i64 0, .string ⟨#[]⟩] 26)) = w2 at HB2 HK6 HK9 ⊢
  have HS2 := Lib.hid ((HS.out.below HB2.out).more HB2.out.size)
  have hgw : w.heap.size ≤ g6 := by have := HG6.out; omega
  have hk6 := HK6.out
  have hk9 := HK9.out
  have c60 : w2.cell? ⟨g6, 0, none⟩ = some (.int .u8 0) := hk6.cell 0
  have f60 : w2.frozen? ⟨g6, 0, none⟩ = false := hk6.frozen 0
  have c61 : w2.cell? ⟨g6, 1, none⟩ = some (.int .i64 0) := hk6.cell 1
  have f61 : w2.frozen? ⟨g6, 1, none⟩ = false := hk6.frozen 1
  have c62 : w2.cell? ⟨g6, 2, none⟩ = some (.string ⟨#[]⟩) := hk6.cell 2
  have f62 : w2.frozen? ⟨g6, 2, none⟩ = false := hk6.frozen 2
  have c90 : w2.cell? ⟨g6 + 1, 0, none⟩ = some (.int .u8 k) := hk9.cell 0
  have f90 : w2.frozen? ⟨g6 + 1, 0, none⟩ = false := hk9.frozen 0
  have c91 : w2.cell? ⟨g6 + 1, 1, none⟩ = some (.int .i64 0) := hk9.cell 1
  have f91 : w2.frozen? ⟨g6 + 1, 1, none⟩ = false := hk9.frozen 1
  have c92 : w2.cell? ⟨g6 + 1, 2, none⟩ = some (.string ⟨#[]⟩) := hk9.cell 2
  have f92 : w2.frozen? ⟨g6 + 1, 2, none⟩ = false := hk9.frozen 2
  clear hk6 hk9
  go_wp2_with fail
  all_goals (refine bodyPost_ret (v := .tuple #[.agg #[.int .u8 k, .int .i64 0, .string ⟨#[]⟩], .int .i64 0, .int .i64 1]) (by simp [results, Tryd.results45, go_sem, *]) rfl ?_)
  all_goals
    refine ⟨0, ⟨#[]⟩, _, by rw [HAE.out]; rfl, ?_, ?_⟩
    · intro hx; rw [HAE.out] at hx; omega
    · repeat (first | refine below_drewN ?_ 1 | refine rbelow_set ?_ (by omega))
      exact HB2.out
set_option linter.unusedVariables false in
set_option maxHeartbeats 1000000 in
theorem rone_any (k : Int) (v : Value) (bs : List UInt8) (a : Nat) (w : World) (h : Sl w w.heap.size v (bv bs)) (ha : a ≤ bs.length) (hl : bs.length ≤ 1000000000) :
    Calls Tryd.prog 45 #[v, .int .i64 a, .int .u8 k] w (ROnePost k bs a w) := by
  by_cases c1 : k = 105
  · subst c1; exact rone_105 v bs a w h ha hl
  by_cases c102 : k = 102
  · subst c102; exact rone_102 v bs a w h ha hl
  by_cases c117 : k = 117
  · subst c117; exact rone_117 v bs a w h ha hl
  by_cases c111 : k = 111
  · subst c111; exact rone_111 v bs a w h ha hl
  by_cases c110 : k = 110
  · subst c110; exact rone_110 v bs a w h ha hl
  by_cases c115 : k = 115
  · subst c115; exact rone_115 v bs a w h ha hl
  by_cases c97 : k = 97
  · subst c97; exact rone_97 v bs a w h ha hl
  exact rone_other k ⟨c1, c102, c117, c111, c110, c115, c97⟩ v bs a w h ha hl
end Go.Proofs.YtihbgkighckiiaaDoor
