/- Words used by every walk of this seat: bytes as cells, a slice value that reads as a list of cells ('Sl'), worlds that keep all that was there. No condition. -/
import Derived.WalkKit
import Derived.WalkSpells
import Derived.WalkLawsBesides
import Derived.Deep.Draws
import Derived.Deep.AppendLies
import Derived.Maps.AppendAt
import Derived.Lib.Hide
import Derived.Lib.AppendStr
namespace Go.Proofs.YtagjmkgbfbaekaaDoor
open Go.RowKit

/-- Bytes as cells. -/
def bv (l : List UInt8) : List Value := l.map fun b => Value.int .u8 (b.toNat : Int)
theorem bv_length (l : List UInt8) : (bv l).length = l.length := by simp [bv]
theorem bv_append (a b : List UInt8) : bv (a ++ b) = bv a ++ bv b := by simp [bv]
theorem bv_get (l : List UInt8) (j : Nat) (h : j < l.length) : (bv l)[j]? = some (.int .u8 ((l[j]).toNat : Int)) := by simp [bv, h]
theorem bv_drop (l : List UInt8) (k : Nat) : bv (l.drop k) = (bv l).drop k := by simp [bv]
theorem bv_take (l : List UInt8) (k : Nat) : bv (l.take k) = (bv l).take k := by simp [bv]
theorem bv_one (l : List UInt8) : ∀ u ∈ bv l, u.oneCell' = true := by
  intro u hu
  simp only [bv, List.mem_map] at hu
  obtain ⟨b, _, rfl⟩ := hu
  rfl
theorem bv_str (s : ByteArray) : Lib.strCells s = bv s.data.toList := rfl

/-- The slice value v has n elements of so many cells each, which read as xs, and lies below block B. -/
def SlN (w : World) (B size : Nat) (v : Value) (n : Nat) (xs : List Value) : Prop :=
  xs.length = n * size ∧ ∃ A c, v = .slice A n c ∧ n ≤ c ∧ c ≤ maxLen ∧ (A = none → c = 0) ∧ (0 < n → ∃ b off, A = some ⟨b, off, none⟩ ∧ b < B ∧ ∀ j u, xs[j]? = some u → w.cell? ⟨b, off + j, none⟩ = some u)
/-- The same, one cell an element. -/
def Sl (w : World) (B : Nat) (v : Value) (xs : List Value) : Prop := SlN w B 1 v xs.length xs

section
variable {w w' : World} {B B' size n : Nat} {v : Value} {xs : List Value}
theorem Sl.nil_ (w : World) (B : Nat) : Sl w B (.slice none 0 0) [] := ⟨rfl, none, 0, rfl, Nat.le_refl _, by simp, fun _ => rfl, fun h => absurd h (Nat.lt_irrefl _)⟩
theorem SlN.below (h : SlN w B size v n xs) (hb : Below B w w') : SlN w' B size v n xs := by
  obtain ⟨hl, A, c, hv, hc, hm, h0, hx⟩ := h
  refine ⟨hl, A, c, hv, hc, hm, h0, fun hn => ?_⟩
  obtain ⟨b, off, hA, hB, hx⟩ := hx hn
  exact ⟨b, off, hA, hB, fun j u hu => (hb.cell (p := ⟨b, off + j, none⟩) hB).trans (hx j u hu)⟩
theorem SlN.more (h : SlN w B size v n xs) (hB : B ≤ B') : SlN w B' size v n xs := by
  obtain ⟨hl, A, c, hv, hc, hm, h0, hx⟩ := h
  refine ⟨hl, A, c, hv, hc, hm, h0, fun hn => ?_⟩
  obtain ⟨b, off, hA, hb, hx⟩ := hx hn
  exact ⟨b, off, hA, by omega, hx⟩
theorem Sl.below (h : Sl w B v xs) (hb : Below B w w') : Sl w' B v xs := SlN.below h hb
theorem Sl.more (h : Sl w B v xs) (hB : B ≤ B') : Sl w B' v xs := SlN.more h hB
theorem Sl.below' (h : Sl w B v xs) (hb : Below B' w w') (hB : B ≤ B') : Sl w' B v xs := h.below (hb.mono hB)
theorem SlN.of_own {base : Nat} {e : TypeId} (h : w.ownsRow base e size v n xs) : SlN w w.heap.size size v n xs := by
  refine ⟨h.1, ?_⟩
  rcases h.2 with ⟨rfl, rfl⟩ | ⟨g, cap, cur, rfl, hb, hg, hn, hcm, hcs, ht⟩
  · exact ⟨none, 0, rfl, Nat.le_refl _, by simp, fun _ => rfl, fun h => absurd h (Nat.lt_irrefl _)⟩
  · refine ⟨_, cap, rfl, hn, hcm, (fun h => by cases h), fun _ => ⟨g, 0, rfl, (Array.getElem?_eq_some_iff.1 hg).1, fun j u hu => ?_⟩⟩
    have := h.cells (g := g) rfl j u hu
    have hadd : (⟨g, 0, none⟩ : Addr).add j = ⟨g, 0 + j, none⟩ := by unfold Addr.add; split <;> simp_all
    rwa [hadd] at this
theorem Sl.of_own {base : Nat} {e : TypeId} (h : w.ownsRow base e 1 v n xs) : Sl w w.heap.size v xs := by
  have hl : xs.length = n := by simpa using h.1
  show SlN _ _ _ _ _ _
  rw [hl]
  exact SlN.of_own h
end

/-- The block g is just these cells, none frozen. -/
def Blk (w : World) (g : Nat) (t : TypeId) (cs : Array Value) : Prop := w.heap[g]? = some (.cells cs t (0, 0))
section
variable {w w' : World} {g : Nat} {t : TypeId} {cs : Array Value}
theorem Blk.lt (h : Blk w g t cs) : g < w.heap.size := (Array.getElem?_eq_some_iff.1 h).1
theorem Blk.cell (h : Blk w g t cs) (i : Nat) : w.cell? ⟨g, i, none⟩ = cs[i]? := cell_of_row w g i cs t (0, 0) h
theorem Blk.frozen (h : Blk w g t cs) (i : Nat) : w.frozen? ⟨g, i, none⟩ = false := by
  unfold Blk at h
  simp [World.frozen?, h]
theorem Blk.new (w : World) (t : TypeId) (cs : Array Value) : Blk (w.alloc (.cells cs t)) w.heap.size t cs := heap_alloc_new w _
theorem Blk.alloc (h : Blk w g t cs) (o : Obj) : Blk (w.alloc o) g t cs := (Below.heap_alloc w o g h.lt).trans h
theorem Blk.set_ (h : Blk w g t cs) (i : Nat) (u : Value) : Blk (w.setCell ⟨g, i, none⟩ u) g t (cs.setIfInBounds i u) := by
  unfold Blk at h ⊢
  simp [World.setCell, Array.getElem?_modify, h]
theorem Blk.far (h : Blk w g t cs) {p : Addr} (hp : g ≠ p.block) (u : Value) : Blk (w.setCell p u) g t cs := (Below.heap_setCell w p u g hp).trans h
theorem Blk.below {B : Nat} (h : Blk w g t cs) (hb : Below B w w') (hg : g < B) : Blk w' g t cs := (hb.block g hg).trans h
theorem Blk.grown {row : Option Nat} (h : Blk w g t cs) (hb : w.grownBy w' row) (hg : some g ≠ row) : Blk w' g t cs := (hb.block g h.lt hg).trans h
theorem Blk.drewN (h : Blk w g t cs) (n : Nat) : Blk (w.drewN n) g t cs := h
end
theorem only_refl (w : World) (row : Option Nat) : w.grownBy w row := ⟨rfl, rfl, rfl, Nat.le_refl _, fun _ _ _ => rfl⟩
theorem only_trans {a b c : World} {row : Option Nat} (h : a.grownBy b row) (k : b.grownBy c row) : a.grownBy c row :=
  ⟨k.os.trans h.os, k.tape.trans h.tape, k.output.trans h.output, Nat.le_trans h.size k.size, fun i hi hn => (k.block i (Nat.lt_of_lt_of_le hi h.size) hn).trans (h.block i hi hn)⟩
theorem only_drewN {a w : World} {row : Option Nat} (h : a.grownBy w row) (n : Nat) : a.grownBy (w.drewN n) row := ⟨h.os, h.tape, h.output, h.size, h.block⟩
theorem only_alloc {a w : World} {row : Option Nat} (h : a.grownBy w row) (o : Obj) : a.grownBy (w.alloc o) row :=
  ⟨h.os, h.tape, h.output, Nat.le_trans h.size (by simp), fun i hi hne => (Below.heap_alloc w o i (Nat.lt_of_lt_of_le hi h.size)).trans (h.block i hi hne)⟩
theorem only_setCell {a w : World} {g : Nat} (h : a.grownBy w (some g)) {p : Addr} (hp : p.block = g ∨ a.heap.size ≤ p.block) (u : Value) : a.grownBy (w.setCell p u) (some g) :=
  ⟨h.os, h.tape, h.output, by simpa [World.setCell] using h.size, fun i hi hne => (Below.heap_setCell w p u i (by
    rintro rfl
    rcases hp with hp | hp
    · exact hne (by rw [hp])
    · omega)).trans (h.block i hi hne)⟩

theorem only_set {a w : World} {g : Nat} (h : a.grownBy w (some g)) (i : Nat) (u : Value) : a.grownBy (w.setCell ⟨g, i, none⟩ u) (some g) := only_setCell (p := ⟨g, i, none⟩) h (.inl rfl) u
theorem only_set_new {a w : World} {g b : Nat} (h : a.grownBy w (some g)) (hb : a.heap.size ≤ b) (i : Nat) (u : Value) : a.grownBy (w.setCell ⟨b, i, none⟩ u) (some g) := only_setCell (p := ⟨b, i, none⟩) h (.inr hb) u
theorem only_of_below {a w : World} (h : Below a.heap.size a w) (row : Option Nat) : a.grownBy w row := ⟨h.os, h.tape, h.output, h.size, fun i hi _ => h.block i hi⟩
/-- What writes one block of a call's own leaves all below it. -/
theorem below_of_only {B : Nat} {a b w : World} {g : Nat} (h : Below B a b) (k : b.grownBy w (some g)) (hB : B ≤ b.heap.size) (hg : B ≤ g) : Below B a w :=
  h.grown k hB (fun j hj => by cases hj; exact hg)
theorem place_num (v n : Int) (hn : 0 < n) : v % n = (if v.tmod n < 0 then v.tmod n + n else v.tmod n) ∧ -n < v.tmod n ∧ v.tmod n < n := by
  have h := @Int.tmod_eq_emod v n
  have h1 := Int.emod_nonneg v (Int.ne_of_gt hn)
  have h2 := Int.emod_lt_of_pos v hn
  have h3 : n.natAbs = n := by omega
  have h4 : v % n = 0 → n ∣ v := fun h => Int.dvd_of_emod_eq_zero h
  by_cases c : 0 ≤ v ∨ n ∣ v
  · rw [if_pos c] at h
    rw [if_neg (by omega)]
    omega
  · rw [if_neg c] at h
    have : v % n ≠ 0 := fun h => c (.inr (h4 h))
    rw [if_pos (by omega)]
    omega
theorem below_drewN {B : Nat} {a w : World} (h : Below B a w) (n : Nat) : Below B a (w.drewN n) := ⟨h.os, h.tape, h.output, h.size, h.block⟩
/-- What a walk is told behind a contract that ends in 'Below': every old cell and mark reads as before. -/
theorem bcell {B : Nat} {W w1 : World} (hb : Below B W w1) :
    (∀ b o, b < B → w1.cell? ⟨b, o, none⟩ = W.cell? ⟨b, o, none⟩) ∧ (∀ b o, b < B → w1.frozen? ⟨b, o, none⟩ = W.frozen? ⟨b, o, none⟩) :=
  ⟨fun b o h => hb.cell (p := ⟨b, o, none⟩) h, fun b o h => hb.frozen (p := ⟨b, o, none⟩) h⟩
theorem ret_int {k : IntKind} {a b : Int} (h : a = b) : Ending.returned (.int k a) = .returned (.int k b) := by rw [h]
theorem ret_bool {a b : Bool} (h : a = b) : Ending.returned (.bool a) = .returned (.bool b) := by rw [h]
end Go.Proofs.YtagjmkgbfbaekaaDoor
