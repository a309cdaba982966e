/- Both queues together, whatever stands between two calls of one statement: for the regions that draw their order. No condition but that the errors stand in memory. -/
import Derived.Test.YtagjmkgbfbaekaaDoorQRef
import Derived.Test.YtagjmkgbfbaekaaDoorQBytes
namespace Go.Proofs.YtagjmkgbfbaekaaDoor
open Go.RowKit

/-- Bytes lie in no block that holds none. -/
theorem Sl.apart {w w' : World} {B g : Nat} {t : TypeId} {cs : Array Value} {v : Value} {bs : List UInt8} (hs : Sl w B v (bv bs)) (hb : Blk w g t cs) (hno : ∀ (i : Nat) (b : Int), cs[i]? ≠ some (Value.int .u8 b)) (hg : w.grownBy w' (some g)) (hB : B ≤ w.heap.size) : Sl w' B v (bv bs) := by
  obtain ⟨hl, A, c, hv, hc, hm, h0, hx⟩ := hs
  refine ⟨hl, A, c, hv, hc, hm, h0, fun hn => ?_⟩
  obtain ⟨b, off, hA, hb2, hx⟩ := hx hn
  have hne : b ≠ g := by
    rintro rfl
    have hn' : 0 < bs.length := by rwa [bv_length] at hn
    have h1 := hx 0 _ (bv_get bs 0 hn')
    rw [hb.cell] at h1
    exact hno _ _ h1
  exact ⟨b, off, hA, hb2, fun j u hu => (World.cell?_of_block (a := ⟨b, off + j, none⟩) (hg.block b (by omega) (fun e => hne (by injection e)))).trans (hx j u hu)⟩
theorem no_u8_3 {a b c : Value} (ha : ∀ x, a ≠ .int .u8 x) (hb : ∀ x, b ≠ .int .u8 x) (hc : ∀ x, c ≠ .int .u8 x) : ∀ (i : Nat) (x : Int), (#[a, b, c] : Array Value)[i]? ≠ some (.int .u8 x) := by
  intro i x h
  rcases i with _ | _ | _ | i
  · simp at h; exact ha x h
  · simp at h; exact hb x h
  · simp at h; exact hc x h
  · simp at h
theorem RQIs.no {w : World} {h : Nat} {M : Int} {b : List UInt8} {c : Bool} (_ : RQIs w h M b c) : ∀ (i : Nat) (x : Int), (#[.int .i64 M, .string (strB b), .bool c] : Array Value)[i]? ≠ some (.int .u8 x) := no_u8_3 (by simp) (by simp) (by simp)

/-- Both queues, one more slice that the statement holds, and the call's own variable (block o). -/
def J (w0 : World) (g h o : Nat) (oc : Array Value) (M : Int) (b1 : List UInt8) (c1 : Bool) (b2 : List UInt8) (c2 : Bool) (vb : Value) (zs : List UInt8) (w : World) : Prop :=
  QIs w g M b1 c1 ∧ RQIs w h M b2 c2 ∧ Sl w w.heap.size vb (bv zs) ∧ Blk w o 66 oc ∧ Below w0.heap.size w0 w

section
variable {w w' : World} {g h : Nat} {M : Int} {b : List UInt8} {c : Bool}
theorem RQIs.grown (hq : RQIs w h M b c) (hg : w.grownBy w' (some g)) (hne : h ≠ g) : RQIs w' h M b c := Blk.grown hq hg (fun e => hne (by injection e))
theorem RQIs.below (hq : RQIs w h M b c) (hb : Below w.heap.size w w') : RQIs w' h M b c := Blk.below hq hb (Blk.lt hq)
theorem QIs.grown {b2 : List UInt8} {c2 : Bool} {M2 : Int} (hq : QIs w g M b c) (hr : RQIs w h M2 b2 c2) (hg : w.grownBy w' (some h)) (hne : g ≠ h) : QIs w' g M b c := by
  obtain ⟨v, h1, h2, h3⟩ := hq
  exact ⟨v, h1.grown hg (fun e => hne (by injection e)), (Sl.apart h2 hr hr.no hg (Nat.le_refl _)).more hg.size, h3⟩
end

section
variable {w0 w w' : World} {g h o : Nat} {oc : Array Value} {M : Int} {b1 b2 zs zs' : List UInt8} {c1 c2 : Bool} {vb vb' : Value}
/-- Behind a call that leaves all old memory. -/
theorem J.below (hj : J w0 g h o oc M b1 c1 b2 c2 vb zs w) (hb : Below w.heap.size w w') : J w0 g h o oc M b1 c1 b2 c2 vb zs w' := by
  obtain ⟨h1, h2, h3, h4, h5⟩ := hj
  exact ⟨h1.below hb, h2.below hb, (h3.below hb).more hb.size, h4.below hb h4.lt, h5.trans (hb.mono h5.size)⟩
theorem J.slice (hj : J w0 g h o oc M b1 c1 b2 c2 vb zs w) (hs : Sl w w.heap.size vb' (bv zs')) : J w0 g h o oc M b1 c1 b2 c2 vb' zs' w := ⟨hj.1, hj.2.1, hs, hj.2.2.2⟩
/-- Behind a call that writes the first queue. -/
theorem J.first {b1' : List UInt8} {c1' : Bool} (hj : J w0 g h o oc M b1 c1 b2 c2 vb zs w) (hg : w.grownBy w' (some g)) (hq : QIs w' g M b1' c1') (hgh : h ≠ g) (hgo : o ≠ g) (hB : w0.heap.size ≤ g) : J w0 g h o oc M b1' c1' b2 c2 vb zs w' := by
  obtain ⟨h1, h2, h3, h4, h5⟩ := hj
  obtain ⟨v, k1, k2, k3⟩ := h1
  exact ⟨hq, h2.grown hg hgh, (Sl.apart h3 k1 (no_u8_3 (by simp) (by obtain ⟨_, A, c, rfl, _⟩ := k2; simp) (by simp)) hg (Nat.le_refl _)).more hg.size, h4.grown hg (fun e => hgo (by injection e)), below_of_only h5 hg h5.size hB⟩
/-- Behind a call that writes the second. -/
theorem J.second {b2' : List UInt8} {c2' : Bool} (hj : J w0 g h o oc M b1 c1 b2 c2 vb zs w) (hg : w.grownBy w' (some h)) (hq : RQIs w' h M b2' c2') (hgh : g ≠ h) (hgo : o ≠ h) (hB : w0.heap.size ≤ h) : J w0 g h o oc M b1 c1 b2' c2' vb zs w' := by
  obtain ⟨h1, h2, h3, h4, h5⟩ := hj
  exact ⟨h1.grown h2 hg hgh, hq, (Sl.apart h3 h2 h2.no hg (Nat.le_refl _)).more hg.size, h4.grown hg (fun e => hgo (by injection e)), below_of_only h5 hg h5.size hB⟩
theorem J.conv (hj : J w0 g h o oc M b1 c1 b2 c2 vb zs w) : (convert 31 9 vb).run Tryd.prog w = .ok (.string (strB zs)) w :=
  conv_str Tryd.underlying31 Tryd.underlying5 Tryd.underlying9 hj.2.2.1
theorem J.cell (hj : J w0 g h o oc M b1 c1 b2 c2 vb zs w) (i : Nat) : w.cell? ⟨o, i, none⟩ = oc[i]? := hj.2.2.2.1.cell i
end

section
variable {w0 w : World} {g h o : Nat} {oc : Array Value} {M : Int} {b1 b2 zs : List UInt8} {c1 c2 : Bool} {vb : Value}
theorem j_take (n : Int) (hj : Hid (J w0 g h o oc M b1 c1 b2 c2 vb zs w)) (hgh : h ≠ g) (hgo : o ≠ g) (hB : w0.heap.size ≤ g) (hl : b1.length ≤ 16384) :
    Calls Tryd.prog 32 #[.pointer (some ⟨g, 0, none⟩), .int .i64 n] w fun e w' => ∃ v, e = .returned v ∧ Hid (J w0 g h o oc M (b1.drop n.toNat) c1 b2 c2 v (b1.take n.toNat) w') ∧
      (∀ i, w'.cell? ⟨o, i, none⟩ = oc[i]?) ∧ (convert 31 9 v).run Tryd.prog w' = .ok (.string (strB (b1.take n.toNat))) w' := by
  have hj' := hj.out
  refine (qtake_any g M b1 c1 n w hj'.1 hl).mono ?_
  rintro e w' ⟨v, rfl, hs, _, hq, hg⟩
  have k := (hj'.first hg hq hgh hgo hB).slice hs
  exact ⟨v, rfl, k, k.cell, k.conv⟩
theorem j_rtake (n : Int) (hj : Hid (J w0 g h o oc M b1 c1 b2 c2 vb zs w)) (hgh : g ≠ h) (hgo : o ≠ h) (hB : w0.heap.size ≤ h) (hl : b2.length ≤ 16384) :
    Calls Tryd.prog 36 #[.pointer (some ⟨h, 0, none⟩), .int .i64 n] w fun e w' => e = .returned (.string (strB (b2.take n.toNat))) ∧ Hid (J w0 g h o oc M b1 c1 (b2.drop n.toNat) c2 vb zs w') ∧
      (∀ i, w'.cell? ⟨o, i, none⟩ = oc[i]?) ∧ (convert 31 9 vb).run Tryd.prog w' = .ok (.string (strB zs)) w' := by
  have hj' := hj.out
  refine (rqtake_any h M b2 c2 n w hj'.2.1 hl).mono ?_
  rintro e w' ⟨rfl, hq, hg⟩
  have k := hj'.second hg hq hgh hgo hB
  exact ⟨rfl, k, k.cell, k.conv⟩
theorem j_bytes {ov : Value} {ys : List UInt8} (hj : Hid (J w0 g h o oc M b1 c1 b2 c2 vb zs w)) (hs : Hid (Sl w0 w0.heap.size ov (bv ys))) (hy : ys.length ≤ 3000) :
    Calls Tryd.prog 21 #[ov] w fun e w' => ∃ v, e = .returned v ∧ Hid (J w0 g h o oc M b1 c1 b2 c2 v ys w') ∧ (∀ i, w'.cell? ⟨o, i, none⟩ = oc[i]?) := by
  have hj' := hj.out
  have hb := hj'.2.2.2.2
  refine (bytes_any ov ys w ((hs.out.below hb).more hb.size) (by omega)).mono ?_
  rintro e w' ⟨v, rfl, hown, hb'⟩
  have k := (hj'.below hb').slice (Sl.of_own hown)
  exact ⟨v, rfl, k, k.cell⟩
theorem j_put {A : Nat → Addr} (hj : Hid (J w0 g h o oc M b1 c1 b2 c2 vb zs w)) (hE : Hid (Errs w0 w0.heap.size allErrs A)) (hgh : h ≠ g) (hgo : o ≠ g) (hB : w0.heap.size ≤ g) (hl : b1.length ≤ 16384) (hm0 : 0 ≤ M) (hm : M ≤ 16384) (hz : zs.length ≤ 3000) :
    Calls Tryd.prog 31 #[.pointer (some ⟨g, 0, none⟩), vb] w fun e w' => e = .returned (errV A (putK M b1 zs c1)) ∧ Hid (J w0 g h o oc M (putB M b1 zs c1) (putC M b1 zs c1) b2 c2 vb zs w') ∧ (∀ i, w'.cell? ⟨o, i, none⟩ = oc[i]?) := by
  have hj' := hj.out
  have hb := hj'.2.2.2.2
  refine (qput_any A g M b1 c1 vb zs w (hE.out.to hb hb.size) hj'.1 hj'.2.2.1 hl hm0 hm (by omega)).mono ?_
  rintro e w' ⟨rfl, hq, hg⟩
  have k := hj'.first hg hq hgh hgo hB
  exact ⟨rfl, k, k.cell⟩
theorem j_kind {A : Nat → Addr} (hj : Hid (J w0 g h o oc M b1 c1 b2 c2 vb zs w)) (hE : Hid (Errs w0 w0.heap.size allErrs A)) (k : Nat) (hk : k ≤ 16) :
    Calls Tryd.prog 23 #[errV A k] w fun e w' => e = .returned (.int .i64 k) ∧ Hid (J w0 g h o oc M b1 c1 b2 c2 vb zs w') ∧ (∀ i, w'.cell? ⟨o, i, none⟩ = oc[i]?) := by
  have hj' := hj.out
  have hb := hj'.2.2.2.2
  refine (kind_any A k hk w (hE.out.to hb hb.size)).mono ?_
  rintro e w' ⟨rfl, hb'⟩
  have k := hj'.below hb'
  exact ⟨rfl, k, k.cell⟩
theorem j_rput {ov : Value} {ys : List UInt8} (hj : Hid (J w0 g h o oc M b1 c1 b2 c2 vb zs w)) (hs : Hid (Sl w0 w0.heap.size ov (bv ys))) (hy : ys.length ≤ 3000) (hgh : g ≠ h) (hgo : o ≠ h) (hB : w0.heap.size ≤ h) (hl : b2.length ≤ 16384) (hm0 : 0 ≤ M) (hm : M ≤ 16384) :
    Calls Tryd.prog 38 #[.pointer (some ⟨h, 0, none⟩), ov] w fun e w' => e = .returned (.int .i64 (putK M b2 ys c2)) ∧ Hid (J w0 g h o oc M b1 c1 (putB M b2 ys c2) (putC M b2 ys c2) vb zs w') ∧ (∀ i, w'.cell? ⟨o, i, none⟩ = oc[i]?) := by
  have hj' := hj.out
  have hb := hj'.2.2.2.2
  refine (rqput_any h M b2 c2 ov ys w hj'.2.1 ((hs.out.below hb).more hb.size) hl hm0 hm (by omega)).mono ?_
  rintro e w' ⟨rfl, hq, hg⟩
  have k := hj'.second hg hq hgh hgo hB
  exact ⟨rfl, k, k.cell⟩
theorem putK_le (M : Int) (bs ys : List UInt8) (c : Bool) : putK M bs ys c ≤ 16 := by
  unfold putK; split
  · omega
  · split <;> omega
theorem J.drew (hj : Hid (J w0 g h o oc M b1 c1 b2 c2 vb zs w)) : Hid (J w0 g h o oc M b1 c1 b2 c2 vb zs w.drew) :=
  ⟨hj.out.1, hj.out.2.1, hj.out.2.2.1, hj.out.2.2.2.1, below_drewN hj.out.2.2.2.2 1⟩
end
end Go.Proofs.YtagjmkgbfbaekaaDoor
