/- The document's memories (tableauref10.M): how they stand; in, Size. No condition. -/
import Derived.Test.YtagjmkgbfbaekaaDoorMemW
import Derived.Test.YtagjmkgbfbaekaaDoorApp
namespace Go.Proofs.YtagjmkgbfbaekaaDoor
open Go.RowKit
set_option maxRecDepth 100000

theorem cell_same {w w' : World} {b o : Nat} (h : w'.heap[b]? = w.heap[b]?) : w'.cell? ⟨b, o, none⟩ = w.cell? ⟨b, o, none⟩ := by
  simp [World.cell?, h]
/-- A slice of bytes that lies in a block of this kind, at its begin. -/
def SlP (w : World) (P : Nat → Prop) (v : Value) (bs : List UInt8) : Prop :=
  (v = .slice none 0 0 ∧ bs = []) ∨ ∃ b c, v = .slice (some ⟨b, 0, none⟩) bs.length c ∧ bs.length ≤ c ∧ c ≤ maxLen ∧ b < w.heap.size ∧ P b ∧ ∀ j u, (bv bs)[j]? = some u → w.cell? ⟨b, j, none⟩ = some u
theorem SlP.sl {w : World} {P : Nat → Prop} {v : Value} {bs : List UInt8} (h : SlP w P v bs) : Sl w w.heap.size v (bv bs) := by
  rcases h with ⟨rfl, rfl⟩ | ⟨b, c, hv, hc, hm, hb, _, hx⟩
  · exact Sl.nil_ _ _
  · show SlN _ _ _ _ _ _
    rw [bv_length]
    exact ⟨by simp [bv_length], _, c, hv, hc, hm, (fun h => by cases h), fun hn => ⟨b, 0, rfl, hb, fun j u hu => by rw [Nat.zero_add]; exact hx j u hu⟩⟩
theorem SlP.nil_ (w : World) (P : Nat → Prop) : SlP w P (.slice none 0 0) [] := .inl ⟨rfl, rfl⟩
theorem SlP.keep {w w' : World} {P P' : Nat → Prop} {v : Value} {bs : List UInt8} (h : SlP w P v bs) (hk : ∀ b, b < w.heap.size → P b → w'.heap[b]? = w.heap[b]? ∧ P' b) (hs : w.heap.size ≤ w'.heap.size) : SlP w' P' v bs := by
  rcases h with h | ⟨b, c, hv, hc, hm, hb, hP, hx⟩
  · exact .inl h
  · obtain ⟨k1, k2⟩ := hk b hb hP
    exact .inr ⟨b, c, hv, hc, hm, by omega, k2, fun j u hu => (cell_same k1).trans (hx j u hu)⟩
theorem SlP.form {w : World} {P : Nat → Prop} {v : Value} {bs : List UInt8} (h : SlP w P v bs) : ∃ A c, v = .slice A bs.length c := by
  rcases h with ⟨rfl, rfl⟩ | ⟨b, c, hv, _⟩
  · exact ⟨_, _, rfl⟩
  · exact ⟨_, _, hv⟩
theorem SlP.of_own {w : World} {base : Nat} {v : Value} {bs : List UInt8} {P : Nat → Prop} (h : w.ownsRow base 5 1 v bs.length (bv bs)) (hP : ∀ b, base ≤ b → P b) : SlP w P v bs := by
  obtain ⟨hl, hx⟩ := h
  rcases hx with ⟨rfl, hn⟩ | ⟨g, cap, cur, rfl, hb, hg, hn, hcm, hcs, ht⟩
  · exact .inl ⟨rfl, List.eq_nil_of_length_eq_zero hn⟩
  · refine .inr ⟨g, cap, rfl, hn, hcm, (Array.getElem?_eq_some_iff.1 hg).1, hP g hb, fun j u hu => ?_⟩
    rw [cell_of_row w g j cur _ (0, 0) hg]
    have hj := (List.getElem?_eq_some_iff.1 hu).1
    rw [bv_length] at hj
    rw [← ht, Nat.mul_one, List.getElem?_take_of_lt hj] at hu
    simpa using hu

/-- The document's memories at block h: what each key has. -/
structure RM (w : World) (P : Nat → Prop) (h : Nat) (f : Int → Option (List UInt8)) : Prop where
  cur : ∃ cur, Blk w h 46 cur ∧ cur.size = 512 ∧ ∀ k : Nat, k < 256 → (∃ v, cur[k]? = some v ∧ SlP w (fun b => b ≠ h ∧ P b) v ((f k).getD [])) ∧ cur[256 + k]? = some (.bool (f k).isSome)
  dom : ∀ k : Int, ¬ (1 ≤ k ∧ k ≤ 255) → f k = none
  small : ∀ k bs, f k = some bs → bs.length ≤ 65536
section
variable {w w' : World} {P P' : Nat → Prop} {h : Nat} {f : Int → Option (List UInt8)}
theorem RM.lt (hR : RM w P h f) : h < w.heap.size := by obtain ⟨cur, hb, _⟩ := hR.cur; exact hb.lt
theorem RM.keep (hR : RM w P h f) (hh : w'.heap[h]? = w.heap[h]?) (hk : ∀ b, b < w.heap.size → P b → w'.heap[b]? = w.heap[b]? ∧ P' b) (hs : w.heap.size ≤ w'.heap.size) : RM w' P' h f := by
  obtain ⟨cur, hb, hsz, hx⟩ := hR.cur
  refine ⟨⟨cur, hh.trans hb, hsz, fun k hlt => ?_⟩, hR.dom, hR.small⟩
  obtain ⟨⟨v, h1, h2⟩, h3⟩ := hx k hlt
  exact ⟨⟨v, h1, h2.keep (fun b hb hP => ⟨(hk b hb hP.2).1, hP.1, (hk b hb hP.2).2⟩) hs⟩, h3⟩
theorem RM.has_ (hR : RM w P h f) {c : Nat} (hc : c < 256) : w.cell? ⟨h, 256 + c, none⟩ = some (.bool (f c).isSome) := by
  obtain ⟨cur, hb, hsz, hx⟩ := hR.cur
  rw [hb.cell]
  exact (hx c hc).2
theorem RM.row (hR : RM w P h f) {c : Nat} (hc : c < 256) : ∃ v, w.cell? ⟨h, c, none⟩ = some v ∧ SlP w (fun b => b ≠ h ∧ P b) v ((f c).getD []) := by
  obtain ⟨cur, hb, hsz, hx⟩ := hR.cur
  obtain ⟨⟨v, h1, h2⟩, _⟩ := hx c hc
  exact ⟨v, by rw [hb.cell]; exact h1, h2⟩
theorem RM.frozen (hR : RM w P h f) (i : Nat) : w.frozen? ⟨h, i, none⟩ = false := by obtain ⟨cur, hb, _⟩ := hR.cur; exact hb.frozen i
theorem RM.key (hR : RM w P h f) {k : Int} {bs : List UInt8} (hk : f k = some bs) : ∃ c : Nat, k = c ∧ 1 ≤ c ∧ c < 256 := by
  have : 1 ≤ k ∧ k ≤ 255 := Classical.byContradiction fun hn => by rw [hR.dom k hn] at hk; cases hk
  exact ⟨k.toNat, by omega, by omega, by omega⟩
/-- A row is set: world w1 holds all that w held, and the new row; then the two cells are written. -/
theorem RM.put_ {w1 : World} (hR : RM w P h f) {c : Nat} (hc1 : 1 ≤ c) (hc : c < 256) {v : Value} {bs : List UInt8} (hb : w1.heap[h]? = w.heap[h]?) (hk : ∀ b, b < w.heap.size → P b → w1.heap[b]? = w.heap[b]? ∧ P' b) (hs : w.heap.size ≤ w1.heap.size)
    (hv : SlP w1 (fun b => b ≠ h ∧ P' b) v bs) (hl : bs.length ≤ 65536) (w2 : World) (hw2 : w2 = (w1.setCell ⟨h, c, none⟩ v).setCell ⟨h, 256 + c, none⟩ (.bool true)) : RM w2 P' h (fun q => if q = (c : Int) then some bs else f q) := by
  subst hw2
  have hR1 : RM w1 P' h f := hR.keep hb hk hs
  obtain ⟨cur, hblk, hsz, hx⟩ := hR1.cur
  have hfar : ∀ b, b ≠ h → ((w1.setCell ⟨h, c, none⟩ v).setCell ⟨h, 256 + c, none⟩ (.bool true)).heap[b]? = w1.heap[b]? := fun b hbh => (Below.heap_setCell _ _ _ b (fun e => hbh e)).trans (Below.heap_setCell _ _ _ b (fun e => hbh e))
  have hsize : w1.heap.size ≤ ((w1.setCell ⟨h, c, none⟩ v).setCell ⟨h, 256 + c, none⟩ (.bool true)).heap.size := by simp [World.setCell]
  have hkk : ∀ {v' : Value} {l : List UInt8}, SlP w1 (fun b => b ≠ h ∧ P' b) v' l → SlP ((w1.setCell ⟨h, c, none⟩ v).setCell ⟨h, 256 + c, none⟩ (.bool true)) (fun b => b ≠ h ∧ P' b) v' l := fun hx => hx.keep (fun b _ hP => ⟨hfar b hP.1, hP⟩) hsize
  refine ⟨⟨(cur.setIfInBounds c v).setIfInBounds (256 + c) (.bool true), (hblk.set_ c v).set_ (256 + c) (.bool true), by simpa using hsz, fun k hlt => ?_⟩, fun k hk => ?_, fun k l hkl => ?_⟩
  · obtain ⟨⟨v0, h1, h2⟩, h3⟩ := hx k hlt
    by_cases hkc : k = c
    · subst hkc
      rw [if_pos rfl]
      refine ⟨⟨v, ?_, hkk hv⟩, ?_⟩
      · rw [Array.getElem?_setIfInBounds_ne (by omega), Array.getElem?_setIfInBounds_self_of_lt (by omega)]
      · rw [Array.getElem?_setIfInBounds_self_of_lt (by simp; omega)]; rfl
    · rw [if_neg (by omega)]
      refine ⟨⟨v0, ?_, hkk h2⟩, ?_⟩
      · rw [Array.getElem?_setIfInBounds_ne (by omega), Array.getElem?_setIfInBounds_ne (by omega)]; exact h1
      · rw [Array.getElem?_setIfInBounds_ne (by omega), Array.getElem?_setIfInBounds_ne (by omega)]; exact h3
  · rw [if_neg (by omega)]
    exact hR.dom k hk
  · by_cases hkc : k = (c : Int)
    · rw [if_pos hkc] at hkl
      cases hkl
      exact hl
    · rw [if_neg hkc] at hkl
      exact hR.small k l hkl
end
theorem rin_any (P : Nat → Prop) (h : Nat) (f : Int → Option (List UInt8)) (k : Int) (w : World) (hR : RM w P h f) :
    Calls Tryd.prog 51 #[.pointer (some ⟨h, 0, none⟩), .int .i64 k] w fun e w' => e = .returned (.bool (f k).isSome) ∧ w = w' := by
  have hca : k < 1 ∨ (1 ≤ k ∧ 255 < k) ∨ (1 ≤ k ∧ k ≤ 255) := by omega
  rcases hca with h1 | ⟨h1, h2⟩ | ⟨h1, h2⟩
  · rw [hR.dom k (by omega)]
    have d : decide (1 ≤ k) = false := by simpa using h1
    clear hR
    go_enter Tryd.func51, Tryd.ntmps51
    go_wp2
    go_ret
    exact ⟨rfl, rfl⟩
  · rw [hR.dom k (by omega)]
    have d : decide (1 ≤ k) = true := by simpa using h1
    have d' : decide (k ≤ 255) = false := by simpa using h2
    clear hR
    go_enter Tryd.func51, Tryd.ntmps51
    go_wp2
    go_ret
    exact ⟨rfl, rfl⟩
  · obtain ⟨c, rfl⟩ : ∃ c : Nat, k = c := Int.eq_ofNat_of_zero_le (by omega)
    have hc : c < 256 := by omega
    have c1 := hR.has_ hc
    generalize (f (c : Int)).isSome = b at c1 ⊢
    have d : decide (1 ≤ (c : Int)) = true := by simpa using h1
    have d' : decide ((c : Int) ≤ 255) = true := by simpa using h2
    clear hR
    go_enter Tryd.func51, Tryd.ntmps51
    go_wp2
    go_ret
    exact ⟨rfl, rfl⟩
/-- How many bytes a key has. -/
def sizeF (r : Option (List UInt8)) : Int := match r with | none => -1 | some bs => bs.length
theorem rsize_any (P : Nat → Prop) (h : Nat) (f : Int → Option (List UInt8)) (k : Int) (w : World) (hR : RM w P h f) :
    Calls Tryd.prog 27 #[.pointer (some ⟨h, 0, none⟩), .int .i64 k] w fun e w' => e = .returned (.int .i64 (sizeF (f k))) ∧ w = w' := by
  have HIN := Lib.hid (rin_any P h f k w hR)
  cases hf : f k with
  | none =>
    have hfin : Hid (sizeF none = -1) := rfl
    rw [hf] at HIN
    generalize sizeF none = z at hfin ⊢
    clear hR hf
    go_enter Tryd.func27, Tryd.ntmps27
    go_wp2_with fail
    refine HIN.out.mono ?_
    rintro e w1 ⟨rfl, rfl⟩
    go_wp2_with fail
    go_ret
    rw [hfin.out]
    exact ⟨rfl, rfl⟩
  | some bs =>
    obtain ⟨c, rfl, hc1, hc⟩ := hR.key hf
    obtain ⟨v, hcell, hsl⟩ := hR.row hc
    rw [hf] at HIN hsl
    obtain ⟨A, cc, rfl⟩ := hsl.form
    simp only [Option.getD_some] at hcell
    have hfin : Hid (sizeF (some bs) = bs.length) := rfl
    generalize bs.length = n at hcell hfin
    generalize sizeF (some bs) = z at hfin ⊢
    have d : decide ((c : Int) < 256) = true := by simp; omega
    clear hR hf
    go_enter Tryd.func27, Tryd.ntmps27
    go_wp2_with fail
    refine HIN.out.mono ?_
    rintro e w1 ⟨rfl, rfl⟩
    go_wp2_with fail
    go_ret
    rw [hfin.out]
    exact ⟨rfl, rfl⟩
end Go.Proofs.YtagjmkgbfbaekaaDoor
