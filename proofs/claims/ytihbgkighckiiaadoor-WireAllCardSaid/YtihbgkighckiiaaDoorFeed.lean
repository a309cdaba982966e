/- The contract of reader.Feed. No condition but that the errors stand in memory. -/
import Derived.Test.YtihbgkighckiiaaDoorFeedL
import Derived.Test.YtihbgkighckiiaaDoorCopy
import Derived.Test.YtihbgkighckiiaaDoorAppKeep
import Derived.Deep.RegionLaw
import Derived.Deep.CutBlock
import Derived.Deep.CutRange
namespace Go.Proofs.YtihbgkighckiiaaDoor
open Go.RowKit
set_option maxRecDepth 100000

theorem SlN.drop_ {w : World} {B n c k : Nat} {b off : Nat} {xs : List Value} (h : SlN w B 1 (.slice (some ⟨b, off, none⟩) n c) n xs) (hk : k ≤ n) : SlN w B 1 (.slice (some ⟨b, off + k, none⟩) (n - k) (c - k)) (n - k) (xs.drop k) := by
  obtain ⟨hl, A', c', hv, hc, hm, h0, hx⟩ := h
  injection hv with e1 e2 e3
  subst e1; subst e3
  refine ⟨by simp; omega, _, _, rfl, by omega, by omega, (fun h => by cases h), fun hp => ?_⟩
  obtain ⟨b', off', hA, hB, hx⟩ := hx (by omega)
  cases hA
  refine ⟨b, off + k, rfl, hB, fun j u hu => ?_⟩
  rw [List.getElem?_drop] at hu
  rw [Nat.add_assoc]
  exact hx (k + j) u hu
/-- The slice value does not lead into block g. -/
def Off (v : Value) (g : Nat) : Prop := ∀ b off n c, v = .slice (some ⟨b, off, none⟩) n c → b ≠ g
/-- A reader at block g: what is left, what was wrong. -/
def RIs (A : Nat → Addr) (w : World) (g : Nat) (left : List UInt8) (k : Nat) : Prop :=
  ∃ v, Blk w g 97 #[v, errV A k] ∧ Sl w w.heap.size v (bv left) ∧ Off v g
def fed (left : List UInt8) (k : Nat) (b : List UInt8) : List RawD × List UInt8 × Nat := if k ≠ 0 then ([], left, k) else feedL (left ++ b)
def FeedPost (A : Nat → Addr) (g : Nat) (left : List UInt8) (k : Nat) (b : List UInt8) (w : World) (e : Ending) (w' : World) : Prop :=
  ∃ vl, e = .returned (.tuple #[vl, errV A (fed left k b).2.2]) ∧ w'.ownsRow w.heap.size 50 3 vl (fed left k b).1.length (rawCells (fed left k b).1) ∧ RIs A w' g (fed left k b).2.1 (fed left k b).2.2 ∧ w.grownBy w' (some g)
/-- .. and what is left lies apart from all blocks below z. -/
def RIz (A : Nat → Addr) (w : World) (g : Nat) (left : List UInt8) (k z : Nat) : Prop :=
  ∃ v, Blk w g 97 #[v, errV A k] ∧ Sl w w.heap.size v (bv left) ∧ ∀ g', g' < z → Off v g'
theorem RIz.is {A : Nat → Addr} {w : World} {g : Nat} {left : List UInt8} {k z : Nat} (h : RIz A w g left k z) (hg : g < z) : RIs A w g left k := by
  obtain ⟨v, h1, h2, h3⟩ := h
  exact ⟨v, h1, h2, h3 g hg⟩
def FeedPost' (A : Nat → Addr) (g : Nat) (left : List UInt8) (k : Nat) (b : List UInt8) (w : World) (e : Ending) (w' : World) : Prop :=
  FeedPost A g left k b w e w' ∧ (k = 0 → RIz A w' g (fed left k b).2.1 (fed left k b).2.2 w.heap.size)
theorem over_zero (n m : Nat) (x y : List UInt8) (hx : x.length = n) (hy : y.length = m) : over (over (List.replicate (n + m) 0) 0 (x.take (n + m))) n (y.take m) = x ++ y := by
  rw [List.take_of_length_le (by omega), List.take_of_length_le (by omega)]
  unfold over
  rw [List.take_zero, List.nil_append, List.take_left' hx, List.drop_eq_nil_of_le (by simp; omega), List.append_nil]

section
variable {w w' : World} {B B' size n g : Nat} {v : Value} {xs : List Value}
theorem SlN.only (h : SlN w B size v n xs) (ho : Off v g) (hb : w.grownBy w' (some g)) (hB : B ≤ w.heap.size) : SlN w' B size v n xs := by
  obtain ⟨hl, A, c, rfl, hc, hm, h0, hx⟩ := h
  refine ⟨hl, A, c, rfl, hc, hm, h0, fun hn => ?_⟩
  obtain ⟨b, off, rfl, hb2, hx⟩ := hx hn
  refine ⟨b, off, rfl, hb2, fun j u hu => ?_⟩
  have hne : b ≠ g := ho b off n c rfl
  exact (World.cell?_of_block (hb.block b (by omega) (fun e => hne (by injection e)))).trans (hx j u hu)
theorem Sl.only (h : Sl w B v xs) (ho : Off v g) (hb : w.grownBy w' (some g)) (hB : B ≤ w.heap.size) : Sl w' B v xs := SlN.only h ho hb hB
theorem Off.of_own {base n : Nat} {e : TypeId} (h : w.ownsRow base e 1 v n xs) (hg : g < base) : Off v g := by
  intro b off m c hv hbg
  rcases h.2 with ⟨rfl, _⟩ | ⟨g', cap, cur, rfl, hb, _⟩
  · cases hv
  · cases hv; omega
theorem Off.nil_ : Off (.slice none 0 0) g := fun _ _ _ _ h => by cases h
end
theorem Tryd.infoRaw : (Tryd.prog.info? 50).map (fun i => (i.zero, i.size, i.bytes)) = some (some (.agg #[.int .i64 0, .int .i64 0, .string ⟨#[]⟩]), 3, 32) := by kernel_rfl
def FeedRel (w : World) (gm : Nat) (all0 : List UInt8) (va vl : Value) (wr : World) : Prop :=
  ∃ (o off : Nat) (done : List RawD), o ≤ all0.length ∧ (o < all0.length → off = o) ∧ va = .slice (some ⟨gm, off, none⟩) (all0.length - o) (all0.length - o) ∧ wr.ownsRow (gm + 1) 50 3 vl done.length (rawCells done) ∧
    feedL all0 = (done ++ (feedL (all0.drop o)).1, (feedL (all0.drop o)).2) ∧ done.length * 8 ≤ o ∧ Blk wr gm 5 (bv all0).toArray ∧ Below w.heap.size w wr
theorem cur_sl {wr : World} {gm o off : Nat} {all0 : List UInt8} (h : Blk wr gm 5 (bv all0).toArray) (ho : o ≤ all0.length) (hoff : o < all0.length → off = o) (hm : all0.length ≤ 60000) : Sl wr wr.heap.size (.slice (some ⟨gm, off, none⟩) (all0.length - o) (all0.length - o)) (bv (all0.drop o)) := by
  refine SlN.toSl (n := all0.length - o) ⟨by rw [bv_length, List.length_drop]; omega, _, _, rfl, Nat.le_refl _, by unfold maxLen; omega, (fun h => by cases h), fun hp => ⟨gm, off, rfl, h.lt, fun j u hu => ?_⟩⟩
  rw [hoff (by omega), h.cell, bv_drop] at *
  rw [List.getElem?_drop] at hu
  simpa using hu
theorem raw_app {w0 w : World} {gm n : Nat} {v : Value} {xs : List Value} {bs : List UInt8} (x y : Int) (s : ByteArray) (ty : TypeId) (hg : w0.heap.size ≤ gm) (ho : w.ownsRow (gm + 1) 50 3 v n xs) (hk : Blk w gm 5 (bv bs).toArray) (hb : Below w0.heap.size w0 w) (hn : n ≤ 60000) :
    ∃ v' w', (Builtin.append_ #[69, 69] ty #[v, .slice (some ⟨w.heap.size, 0, none⟩) 1 1]).run Tryd.prog (w.alloc (.cells #[.int .i64 x, .int .i64 y, .string s] 50)) = .ok v' w' ∧
      Hid (w'.ownsRow (gm + 1) 50 3 v' (n + 1) (xs ++ [.int .i64 x, .int .i64 y, .string s]) ∧ Blk w' gm 5 (bv bs).toArray ∧ Below w0.heap.size w0 w') := by
  obtain ⟨i, hi, hz, hs, hby⟩ := info_parts Tryd.infoRaw
  have hgs := hk.lt
  have hb1 := hb.alloc hb.size (.cells #[.int .i64 x, .int .i64 y, .string s] 50)
  have hlit : ∀ j u, [Value.int .i64 x, .int .i64 y, .string s][j]? = some u → (w.alloc (.cells #[.int .i64 x, .int .i64 y, .string s] 50)).cell? ((⟨w.heap.size, 0, none⟩ : Addr).add j) = some u := fun j u hu => by
    rw [add_of_lit, (Blk.new w 50 _).cell]; simpa using hu
  have hoff : some gm ≠ v.ownBlock := by
    rcases ho.2 with ⟨rfl, _⟩ | ⟨b2, cap, cur, rfl, hb3, _⟩
    · simp [Value.ownBlock]
    · simp [Value.ownBlock]; omega
  obtain ⟨v', w', hr, h2, h3, _⟩ := run_append_own (P := Tryd.prog) (w := w.alloc (.cells #[.int .i64 x, .int .i64 y, .string s] 50)) (gm + 1) 69 ty 50 i _ 3 32 Tryd.underlying69 hi hz hs hby rfl (by decide) v n xs
    (ho.alloc (.cells #[.int .i64 x, .int .i64 y, .string s] 50)) ⟨w.heap.size, 0, none⟩ 1 1 [.int .i64 x, .int .i64 y, .string s] rfl hlit (by intro u hu; simp at hu; rcases hu with rfl | rfl | rfl <;> rfl) (by unfold maxLen; omega) (by omega) (by rw [World.size_alloc]; omega)
  refine ⟨v', w', hr, h2, (hk.alloc _).grown h3 hoff, ?_⟩
  refine hb1.grown h3 (by rw [World.size_alloc]; have := hb.size; omega) (fun b hb2 => ?_)
  rcases ho.2 with ⟨rfl, _⟩ | ⟨b2, cap, cur, rfl, hb3, _⟩
  · simp [Value.ownBlock] at hb2
  · simp [Value.ownBlock] at hb2; omega
theorem own_ne {w : World} {base g s n : Nat} {e : TypeId} {v : Value} {xs : List Value} (h : w.ownsRow base e s v n xs) (hg : g < base) : v.ownBlock = none ∨ v.ownBlock ≠ some g := by
  rcases h.2 with ⟨rfl, _⟩ | ⟨b2, cap, cur, rfl, hb3, _⟩
  · exact .inl rfl
  · exact .inr (by simp [Value.ownBlock]; omega)
theorem feed_ret0 {A : Nat → Addr} {g gm : Nat} {left b left' : List UInt8} {done : List RawD} {w wr : World} {v v0 vl : Value} (h : feedL (left ++ b) = (done, left', 0)) (ho : wr.ownsRow (gm + 1) 50 3 vl done.length (rawCells done)) (hk : Blk wr g 97 #[v0, .nilIface])
    (hb : Below w.heap.size w wr) (hv : Sl wr wr.heap.size v (bv left')) (hovA : ∀ g', g' < w.heap.size → Off v g') (hg : g < w.heap.size) (hgm : w.heap.size ≤ gm) : FeedPost' A g left 0 b w (.returned (.tuple #[vl, .nilIface])) (wr.setCell ⟨g, 0, none⟩ v) := by
  have hov := hovA g hg
  have hf : fed left 0 b = (done, left', 0) := by unfold fed; rw [if_neg (by omega), h]
  have hs := only_set (only_refl wr (some g)) 0 v
  have hz : RIz A (wr.setCell ⟨g, 0, none⟩ v) g left' 0 w.heap.size := ⟨v, hk.set_ 0 v, (hv.only hov hs (Nat.le_refl _)).more hs.size, hovA⟩
  refine ⟨⟨vl, by rw [hf]; rfl, ?_, ?_, only_trans (only_of_below hb _) hs⟩, fun _ => by rw [hf]; exact hz⟩
  · rw [hf]; exact (owns_base ho (by omega)).kept hs (own_ne ho (by omega))
  · rw [hf]
    exact hz.is hg
theorem feed_retE {A : Nat → Addr} {g gm k : Nat} {left b : List UInt8} {done : List RawD} {w wr : World} {v0 e0 vl : Value} (hk0 : 0 < k) (h : feedL (left ++ b) = (done, [], k)) (ho : wr.ownsRow (gm + 1) 50 3 vl done.length (rawCells done)) (hk : Blk wr g 97 #[v0, e0])
    (hb : Below w.heap.size w wr) (hg : g < w.heap.size) (hgm : w.heap.size ≤ gm) : FeedPost' A g left 0 b w (.returned (.tuple #[vl, .iface 121 (.pointer (some (A k)))])) ((wr.setCell ⟨g, 0, none⟩ (.slice none 0 0)).setCell ⟨g, 1, none⟩ (.iface 121 (.pointer (some (A k))))) := by
  have hf : fed left 0 b = (done, [], k) := by unfold fed; rw [if_neg (by omega), h]
  have hs := only_set (only_set (only_refl wr (some g)) 0 (.slice none 0 0)) 1 (.iface 121 (.pointer (some (A k))))
  have hz : RIz A ((wr.setCell ⟨g, 0, none⟩ (.slice none 0 0)).setCell ⟨g, 1, none⟩ (.iface 121 (.pointer (some (A k))))) g [] k w.heap.size := by
    refine ⟨.slice none 0 0, ?_, Sl.nil_ _ _, fun _ _ => Off.nil_⟩
    rw [errV_pos A hk0]
    exact (hk.set_ 0 _).set_ 1 _
  refine ⟨⟨vl, by rw [hf, errV_pos A hk0], ?_, ?_, only_trans (only_of_below hb _) hs⟩, fun _ => by rw [hf]; exact hz⟩
  · rw [hf]; exact (owns_base ho (by omega)).kept hs (own_ne ho (by omega))
  · rw [hf]
    exact hz.is hg
theorem cur_off {gm off g n c : Nat} (h : g ≠ gm) : Off (.slice (some ⟨gm, off, none⟩) n c) g := fun b o n' c' hv hb => by cases hv; exact h hb.symm
theorem own_later' {w w' : World} {B n s : Nat} {e : TypeId} {v : Value} {xs : List Value} (h : w.ownsRow B e s v n xs) (hb : Below w.heap.size w w') : w'.ownsRow B e s v n xs :=
  h.kept (only_of_below hb none) (Classical.em _)
theorem headE_vals (bs : List UInt8) : headE bs = 2 ∨ headE bs = 3 ∨ headE bs = 4 ∨ headE bs = 0 := by
  unfold headE
  split
  · exact .inl rfl
  · split
    · exact .inr (.inl rfl)
    · split
      · exact .inr (.inr (.inl rfl))
      · exact .inr (.inr (.inr rfl))
theorem body_sl {w : World} {gm off p sz : Nat} {cur : List UInt8} (h : Sl w w.heap.size (.slice (some ⟨gm, off, none⟩) p p) (bv cur)) (hl : cur.length = p) (h8 : 8 ≤ sz) (hp : sz ≤ p) (hlt : 8 < p) :
    SlN w w.heap.size 1 (.slice (some ⟨gm, off + 8, none⟩) (sz - 8) (p - 8)) (sz - 8) (bv ((cur.take sz).drop 8)) := by
  unfold Sl at h
  rw [bv_length, hl] at h
  have h1 := (h.drop_ (k := 8) (by omega)).take_ (k := sz - 8) (by omega)
  rw [← bv_drop, ← bv_take] at h1
  rw [List.drop_take]
  exact h1
theorem own_slice' {w : World} {B s n : Nat} {e : TypeId} {v : Value} {xs : List Value} (h : w.ownsRow B e s v n xs) : ∃ A c, v = .slice A n c := by
  rcases h.2 with ⟨rfl, rfl⟩ | ⟨b, cap, cur, rfl, _⟩
  · exact ⟨_, _, rfl⟩
  · exact ⟨_, _, rfl⟩
theorem feed_step {w w' : World} {gm N o p sz off' : Nat} {al cur : List UInt8} {done : List RawD} {str : ByteArray} {vl : Value} (hN : al.length = N) (hp : p = N - o) (ho : o ≤ N) (hcur : cur = al.drop o) (hle : sz ≤ p) (hd : done.length * 8 ≤ o) (h8 : 8 ≤ sz)
    (hf : feedL al = (done ++ (feedL cur).1, (feedL cur).2)) (hfs : feedL cur = ((headO cur, headP cur, strB ((cur.take sz).drop 8)) :: (feedL (cur.drop sz)).1, (feedL (cur.drop sz)).2)) (hs : str = strB ((cur.take sz).drop 8))
    (hR : w'.ownsRow (gm + 1) 50 3 vl (done.length + 1) (rawCells done ++ [.int .i64 (headO cur), .int .i64 (headP cur), .string str]) ∧ Blk w' gm 5 (bv al).toArray ∧ Below w.heap.size w w') (hoff : sz < p → off' = o + sz) :
    FeedRel w gm al (.slice (some ⟨gm, off', none⟩) (p - sz) (p - sz)) vl w' := by
  refine ⟨o + sz, off', done ++ [(headO cur, headP cur, str)], by omega, fun h => hoff (by omega), by rw [hN, show N - (o + sz) = p - sz by omega], ?_, ?_, by simp; omega, hR.2.1, hR.2.2⟩
  · rw [rawCells_app, List.length_append]; exact hR.1
  · have e : al.drop (o + sz) = cur.drop sz := by rw [hcur, List.drop_drop]
    rw [e, hf, hfs, hs]
    simp
/-- errors.Is over what Head tells. -/
theorem is_k (A : Nat → Addr) (S : List Nat) (k : Nat) (hk : k ∈ S) (h2 : 2 ∈ S) (hne : k ≠ 2) (w : World) (hE : Errs w w.heap.size S A) :
    Calls Tryd.prog 38 #[.iface 121 (.pointer (some (A k))), .iface 121 (.pointer (some (A 2)))] w fun e w' => e = .returned (.bool false) ∧ w = w' := by
  obtain ⟨_, _, _, _, ⟨ca, ta, ha⟩, _⟩ := hE.1 k hk
  obtain ⟨_, _, _, _, ⟨cb, tb, hb⟩, _⟩ := hE.1 2 h2
  exact is_other _ _ _ _ _ _ _ (fun h => hne (hE.2 k hk 2 h2 h)) ha hb

set_option maxHeartbeats 6400000 in
theorem feed_any' (A : Nat → Addr) (S : List Nat) (h2 : 2 ∈ S) (h3 : 3 ∈ S) (h4 : 4 ∈ S) (g : Nat) (left : List UInt8) (k : Nat) (vb : Value) (b : List UInt8) (w : World) (hE : Errs w w.heap.size S A) (hr : RIs A w g left k) (hb : Sl w w.heap.size vb (bv b)) (hl : k = 0 → left.length + b.length ≤ 60000) :
    Calls Tryd.prog 32 #[.pointer (some ⟨g, 0, none⟩), vb] w (FeedPost' A g left k b w) := by
  obtain ⟨v, hk, hs, ho⟩ := hr
  have HK := Lib.hid hk
  have HE := Lib.hid hE
  have gc0 : w.cell? ⟨g, 0, none⟩ = some v := hk.cell 0
  have gc1 : w.cell? ⟨g, 1, none⟩ = some (errV A k) := hk.cell 1
  have HR : Hid (RIs A w g left k) := ⟨v, hk, hs, ho⟩
  have HO := Lib.hid ho
  clear hk hE ho
  by_cases hk0 : k = 0
  · subst hk0
    have hlen := hl rfl
    clear hl HR
    have hs2 := hs
    have hb2 := hb
    obtain ⟨_, A0, c0, rfl, hc0, hm0, _⟩ := hs
    obtain ⟨_, A1, c1, rfl, hc1, hm1, _⟩ := hb
    unfold Sl at hs2 hb2
    rw [bv_length] at hc0 hc1 hs2 hb2
    rw [errV_zero] at gc1
    rw [bv_length] at gc0 HO HK ⊢
    obtain ⟨n, hn⟩ : ∃ n, n = left.length := ⟨_, rfl⟩
    obtain ⟨m, hm⟩ : ∃ m, m = b.length := ⟨_, rfl⟩
    rw [← hn] at hc0 hs2 gc0 HO HK hlen
    rw [← hm] at hc1 hb2 hlen
    rw [← hm]
    have HN := Lib.hid hn
    have HM := Lib.hid hm
    unfold maxLen at hm0 hm1
    have hmk := run_make_bytes w (n + m) (by omega)
    rw [Int.natCast_add] at hmk
    obtain ⟨gm, hgm⟩ : ∃ gm, gm = w.heap.size := ⟨_, rfl⟩
    have hb1 : Below w.heap.size w (w.alloc (.cells (bv (List.replicate (n + m) 0)).toArray 5)) := (Below.refl _ _).alloc (Nat.le_refl _) _
    have hk1 : Blk (w.alloc (.cells (bv (List.replicate (n + m) 0)).toArray 5)) gm 5 (bv (List.replicate (n + m) 0)).toArray := by rw [hgm]; exact Blk.new _ _ _
    rw [← hgm] at hmk
    generalize (w.alloc (.cells (bv (List.replicate (n + m) 0)).toArray 5)) = w1 at hmk hb1 hk1
    have hs1 : SlN w1 w1.heap.size 1 (.slice A0 n c0) n (bv left) := (SlN.below hs2 hb1).more hb1.size
    have hb3 : SlN w1 w1.heap.size 1 (.slice A1 m c1) m (bv b) := (SlN.below hb2 hb1).more hb1.size
    obtain ⟨w2, hcp1, hk2, hg2, hz2, _⟩ := run_copy_bytes w1 3 (some ⟨gm, 0, none⟩) (n + m) (n + m) gm 0 (List.replicate (n + m) 0) left (.slice A0 n c0) hk1 (hs1.toSl) (fun _ => rfl) (by rw [← hn]; simp)
    rw [← hn, show min n (n + m) = n by omega] at hcp1
    have hgw : w.heap.size ≤ gm := by omega
    have hbw2 : Below w.heap.size w w2 := below_of_only hb1 hg2 hb1.size hgw
    have hb4 : SlN w2 w2.heap.size 1 (.slice A1 m c1) m (bv b) := (SlN.below hb2 hbw2).more hbw2.size
    have gd0 : w1.cell? ⟨g, 0, none⟩ = some (.slice A0 n c0) := (HK.out.below hb1 HK.out.lt).cell 0
    have HK2 := Lib.hid hk2
    have HBW2 := Lib.hid hbw2
    have HB4 := Lib.hid hb4
    have HGM := Lib.hid hgm
    have HHB := Lib.hid hgw
    clear hgm hs2 hb2 hb1 hk1 hs1 hb3 hk2 hg2 hz2 hbw2 hb4 hn hm hgw
    go_enter Tryd.func32, Tryd.ntmps32
    go_upto_region 4 with (fail)
    go_cut [5] from 30 to 39 (fun s5 wc => s5 = .nilIface ∧ Hid (Blk wc gm 5 (bv (left ++ b)).toArray ∧ Below w.heap.size w wc))
    case first =>
      by_cases hm0' : m = 0
      · obtain ⟨w3, hcp2, hk3, hg3, hz3, _⟩ := run_copy_bytes w2 3 (some ⟨gm, 0, none⟩) m m gm n (over (List.replicate (n + m) 0) 0 (left.take (n + m))) b (.slice A1 m c1) HK2.out HB4.out.toSl (fun h => by omega) (by rw [← HM.out, over_length _ _ _ (by simp; omega)]; simp)
        rw [← HM.out, show min m m = m by omega] at hcp2
        rw [over_zero n m left b HN.out.symm HM.out.symm] at hk3
        have H3 : Hid (Blk w3 gm 5 (bv (left ++ b)).toArray ∧ Below w.heap.size w w3) := ⟨hk3, below_of_only HBW2.out hg3 HBW2.out.size HHB.out⟩
        clear hk3 hg3 hz3
        have HMM := Lib.hid hm0'
        subst hm0'
        rw [Nat.add_zero] at *
        go_wp2_with fail
        go_meet
        exact ⟨rfl, H3⟩
      · obtain ⟨w3, hcp2, hk3, hg3, hz3, _⟩ := run_copy_bytes w2 3 (some ⟨gm, n, none⟩) m m gm n (over (List.replicate (n + m) 0) 0 (left.take (n + m))) b (.slice A1 m c1) HK2.out HB4.out.toSl (fun h => rfl) (by rw [← HM.out, over_length _ _ _ (by simp; omega)]; simp)
        rw [← HM.out, show min m m = m by omega] at hcp2
        rw [over_zero n m left b HN.out.symm HM.out.symm] at hk3
        have H3 : Hid (Blk w3 gm 5 (bv (left ++ b)).toArray ∧ Below w.heap.size w w3) := ⟨hk3, below_of_only HBW2.out hg3 HBW2.out.size HHB.out⟩
        clear hk3 hg3 hz3
        go_wp2_with fail
        go_meet
        exact ⟨rfl, H3⟩
    case rest =>
      obtain ⟨rfl, H3⟩ := hcut
      clear hcp1 hmk gd0 gc0 gc1 HK2 HBW2 HB4
      have HKB : Hid (∀ wr, Below w.heap.size w wr → Blk wr g 97 #[.slice A0 n c0, .nilIface]) := fun wr hb => HK.out.below hb HK.out.lt
      have hall : Hid ((left ++ b).length = n + m) := by show _ = _; rw [List.length_append, ← HN.out, ← HM.out]
      have hgg : Hid (g ≠ gm) := by have := HK.out.lt; have := HGM.out; show g ≠ gm; omega
      obtain ⟨al, hal⟩ : ∃ al, al = left ++ b := ⟨_, rfl⟩
      have HAL := Lib.hid hal
      rw [← hal] at H3 hall
      have HC : Hid (∀ o off wr, Blk wr gm 5 (bv al).toArray → o ≤ n + m → (o < n + m → off = o) → Sl wr wr.heap.size (.slice (some ⟨gm, off, none⟩) (n + m - o) (n + m - o)) (bv (al.drop o))) := fun o off wr h1 h2 h3 => by
        have := cur_sl h1 (o := o) (off := off) (by rw [hall.out]; exact h2) (by rw [hall.out]; exact h3) (by rw [hall.out]; omega)
        rw [hall.out] at this; exact this
      obtain ⟨N, hN⟩ : ∃ N, N = n + m := ⟨_, rfl⟩
      have HNN := Lib.hid hN
      rw [← hN] at HC hall
      have hN6 : N ≤ 60000 := by omega
      go_wp2_with fail
      rw [← HNN.out]
      clear hal hN
      go_loopw [6, 7] (FeedRel w gm al) (fun a _ _ => match a with | .slice _ n _ => n | _ => 0)
      case atStart => exact ⟨0, 0, [], Nat.zero_le _, fun _ => rfl, by rw [hall.out]; rfl, World.ownsRow_nil _ _ _ _, by simp, Nat.le_refl _, H3.out.1, H3.out.2⟩
      case round =>
        obtain ⟨o, off, done, ho, hoff, rfl, hown, hfe, hdl, hbk, hb⟩ := hrel
        rw [hall.out] at ho hoff ⊢
        have hcs := HC.out o off wr hbk (by omega) (fun h => hoff (by omega))
        have HCS := Lib.hid hcs
        have HO := Lib.hid hown
        have HB := Lib.hid hb
        have HF := Lib.hid hfe
        have HBK := Lib.hid hbk
        have HOFF := Lib.hid hoff
        have HEw := Lib.hid (HE.out.to hb hb.size)
        have hcl : (al.drop o).length = N - o := by rw [List.length_drop, hall.out]
        have HCL := Lib.hid hcl
        obtain ⟨p, hp⟩ : ∃ p, p = N - o := ⟨_, rfl⟩
        rw [← hp] at HCS HCL ⊢
        have HP := Lib.hid hp
        obtain ⟨cur, hcur⟩ : ∃ cur, cur = al.drop o := ⟨_, rfl⟩
        rw [← hcur] at HCS HCL HF
        have HCUR := Lib.hid hcur
        clear hcs hown hb hfe hbk hoff hcl hp hcur
        have hp6 : p ≤ 60000 := by have := HP.out; omega
        go_wp2_with fail
        refine (head_any A S _ cur wr HCS.out HEw.out h2 h3 h4).mono ?_
        rintro e w4 ⟨rfl, hb4⟩
        have HB4 := Lib.hid (HB.out.trans (hb4.mono HB.out.size))
        have HO4 := Lib.hid (own_later' HO.out hb4)
        have HBK4 := Lib.hid (HBK.out.below hb4 HBK.out.lt)
        have HCS4 := Lib.hid ((HCS.out.below hb4).more hb4.size)
        have HE4 := Lib.hid (HEw.out.to hb4 hb4.size)
        have HG4 := Lib.hid (HKB.out w4 HB4.out)
        have gv2 : w4.cell? ⟨3, 0, none⟩ = some (.iface 121 (.pointer (some (A 2)))) := HE4.out.var h2
        have gg0 : w4.frozen? ⟨g, 0, none⟩ = false := HG4.out.frozen 0
        have gg1 : w4.frozen? ⟨g, 1, none⟩ = false := HG4.out.frozen 1
        have gh0 : w4.cell? ⟨g, 0, none⟩ = some (.slice A0 n c0) := HG4.out.cell 0
        have gh1 : w4.cell? ⟨g, 1, none⟩ = some .nilIface := HG4.out.cell 1
        clear hb4
        by_cases e2 : headE cur = 2
        · rw [e2, errV_pos A (by omega)]
          have HFS := Lib.hid (feedL_short e2)
          clear e2
          go_wp2_with fail
          refine (is_same (A 2) w4).mono ?_
          rintro e w5 ⟨rfl, rfl⟩
          go_wp2_with fail
          go_ret2
          exact feed_ret0 (left' := cur) (by rw [← HAL.out, HF.out, HFS.out]; simp) HO4.out HG4.out HB4.out HCS4.out (fun g' hg' => cur_off (by have := HGM.out; omega)) HK.out.lt (by rw [HGM.out]; exact Nat.le_refl _)
        · by_cases e0 : headE cur = 0
          · obtain ⟨f1, f2, f3, _⟩ := headE_ok e0
            obtain ⟨sz, hsz⟩ : ∃ sz : Nat, headN cur = sz := ⟨(headN cur).toNat, by omega⟩
            rw [e0, errV_zero, hsz]
            have hs8 : 8 ≤ sz := by omega
            have hs9 : sz ≤ 4096 := by omega
            clear e2 f1 f2 f3
            by_cases hlt : p < sz
            · have HFS := Lib.hid (feedL_part e0 (by rw [hsz, HCL.out]; omega))
              have d1 : decide ((p : Int) < (sz : Int)) = true := by simp; omega
              clear e0 hsz
              go_wp2_with fail
              refine (is_nil (A 2) w4).mono ?_
              rintro e w5 ⟨rfl, rfl⟩
              go_wp2_with fail
              go_ret2
              exact feed_ret0 (left' := cur) (by rw [← HAL.out, HF.out, HFS.out]; simp) HO4.out HG4.out HB4.out HCS4.out (fun g' hg' => cur_off (by have := HGM.out; omega)) HK.out.lt (by rw [HGM.out]; exact Nat.le_refl _)
            · have HFS := Lib.hid (feedL_msg e0 sz hsz (by rw [HCL.out]; omega))
              have d1 : decide ((p : Int) < (sz : Int)) = false := by simp; omega
              have HGW : Hid (w.heap.size ≤ gm) := by show _ ≤ _; rw [HGM.out]; exact Nat.le_refl _
              obtain ⟨str, hstr⟩ : ∃ str, str = strB ((cur.take sz).drop 8) := ⟨_, rfl⟩
              have HSTR := Lib.hid hstr
              have HO8 := Lib.hid ho
              have hmono := hlt
              clear e0 hsz hlt
              by_cases hp8 : 8 < p
              · have hcv := conv_str Tryd.underlying30 Tryd.underlying5 Tryd.underlying9 (body_sl HCS4.out HCL.out hs8 (by omega) hp8)
                rw [← HSTR.out] at hcv
                by_cases hsp : sz < p
                · have HSP := Lib.hid hsp
                  clear hstr
                  go_wp2_with fail
                  refine (is_nil (A 2) w4).mono ?_
                  rintro e w5 ⟨rfl, rfl⟩
                  go_upto_region 13 with (
                    at_builtin
                    refine wpList_app rfl _ _ _ _ rfl _ _ rfl rfl _ (raw_app (headO cur) (headP cur) str _ HGW.out HO4.out HBK4.out HB4.out (by omega)) ?_
                    intro v' w' hR
                    obtain ⟨A3, c3, rfl⟩ := own_slice' hR.out.1)
                  go_wp2_with fail
                  case roundEnd =>
                    refine ⟨?_, ?_⟩
                    · exact feed_step hall.out HP.out HO8.out HCUR.out (by omega) (by omega) (by omega) HF.out HFS.out HSTR.out hR.out (fun _ => by rw [HOFF.out (by have := HP.out; omega)])
                    · simp; omega
                · obtain rfl : sz = p := by omega
                  clear hstr hsp
                  go_wp2_with fail
                  refine (is_nil (A 2) w4).mono ?_
                  rintro e w5 ⟨rfl, rfl⟩
                  go_upto_region 13 with (
                    at_builtin
                    refine wpList_app rfl _ _ _ _ rfl _ _ rfl rfl _ (raw_app (headO cur) (headP cur) str _ HGW.out HO4.out HBK4.out HB4.out (by omega)) ?_
                    intro v' w' hR
                    obtain ⟨A3, c3, rfl⟩ := own_slice' hR.out.1)
                  go_wp2_with fail
                  case roundEnd =>
                    refine ⟨?_, ?_⟩
                    · have := feed_step (off' := off) hall.out HP.out HO8.out HCUR.out (by omega) (by omega) (by omega) HF.out HFS.out HSTR.out hR.out (fun h => by omega); rw [Nat.sub_self] at this; exact this
                    · simp; omega
              · obtain rfl : p = 8 := by omega
                obtain rfl : sz = 8 := by omega
                have hcv := conv_str (w := w4) (v := .slice (some ⟨gm, off, none⟩) 0 0) (bs := []) (n := 0) (B := 0) Tryd.underlying30 Tryd.underlying5 Tryd.underlying9 ⟨rfl, _, 0, rfl, Nat.le_refl _, by unfold maxLen; omega, (fun h => by cases h), fun h => absurd h (Nat.lt_irrefl _)⟩
                have hst2 : strB [] = str := by
                  rw [hstr]; congr 1
                  symm; apply List.drop_eq_nil_of_le; rw [List.length_take]; omega
                rw [hst2] at hcv
                clear hstr hst2 hp8
                go_wp2_with fail
                refine (is_nil (A 2) w4).mono ?_
                rintro e w5 ⟨rfl, rfl⟩
                go_upto_region 13 with (
                  at_builtin
                  refine wpList_app rfl _ _ _ _ rfl _ _ rfl rfl _ (raw_app (headO cur) (headP cur) str _ HGW.out HO4.out HBK4.out HB4.out (by omega)) ?_
                  intro v' w' hR
                  obtain ⟨A3, c3, rfl⟩ := own_slice' hR.out.1)
                go_wp2_with fail
                case roundEnd =>
                  refine ⟨?_, ?_⟩
                  · have := feed_step (off' := off) hall.out HP.out HO8.out HCUR.out (by omega) (by omega) (by omega) HF.out HFS.out HSTR.out hR.out (fun h => by omega); exact this
                  · simp
          · obtain ⟨q, hq⟩ : ∃ q, q = headE cur := ⟨_, rfl⟩
            have hq34 : q = 3 ∨ q = 4 := by rcases headE_vals cur with h | h | h | h <;> omega
            have hqS : q ∈ S := by rcases hq34 with rfl | rfl <;> assumption
            have HFS := Lib.hid (feedL_bad e0 e2)
            rw [← hq] at e0 e2 HFS ⊢
            rw [errV_pos A (by omega)]
            have HQ := Lib.hid (And.intro hqS e2)
            have hq0 : 0 < q := by omega
            have HQ0 := Lib.hid hq0
            clear hq hq34 hqS e0 e2 hq0
            go_wp2_with fail
            refine (is_k A S q HQ.out.1 h2 HQ.out.2 w4 HE4.out).mono ?_
            rintro e w5 ⟨rfl, rfl⟩
            go_wp2_with fail
            go_ret2
            exact feed_retE HQ0.out (by rw [← HAL.out, HF.out, HFS.out]; simp) HO4.out HG4.out HB4.out HK.out.lt (by rw [HGM.out]; exact Nat.le_refl _)
  · have hf : Hid (fed left k b = ([], left, k)) := by show _ = _; unfold fed; rw [if_pos hk0]
    rw [errV_pos A (by omega)] at gc1
    have HP := Lib.hid (Nat.pos_of_ne_zero hk0)
    clear hl hb hs hk0
    go_enter Tryd.func32, Tryd.ntmps32
    go_wp2_with fail
    go_quiet (fail)
    all_goals (try go_wp2)
    all_goals go_ret2
    all_goals
      refine ⟨⟨.slice none 0 0, by rw [hf.out, errV_pos A HP.out]; rfl, ?_, ?_, ?_⟩, fun h => absurd h (by have := HP.out; omega)⟩
      · rw [hf.out]; exact World.ownsRow_nil _ _ _ _
      · rw [hf.out]; exact HR.out
      · exact only_drewN (only_refl _ _) _
theorem feed_any (A : Nat → Addr) (S : List Nat) (h2 : 2 ∈ S) (h3 : 3 ∈ S) (h4 : 4 ∈ S) (g : Nat) (left : List UInt8) (k : Nat) (vb : Value) (b : List UInt8) (w : World) (hE : Errs w w.heap.size S A) (hr : RIs A w g left k) (hb : Sl w w.heap.size vb (bv b)) (hl : k = 0 → left.length + b.length ≤ 60000) :
    Calls Tryd.prog 32 #[.pointer (some ⟨g, 0, none⟩), vb] w (FeedPost A g left k b w) :=
  (feed_any' A S h2 h3 h4 g left k vb b w hE hr hb hl).mono fun _ _ h => h.1
end Go.Proofs.YtihbgkighckiiaaDoor
