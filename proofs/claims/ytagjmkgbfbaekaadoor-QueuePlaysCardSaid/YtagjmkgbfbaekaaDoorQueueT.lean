/- Take of package queue: for a queue that is told by 'QIs' (its room, its bytes, whether it is closed). No condition but that the errors stand in memory. -/
import Derived.Test.YtagjmkgbfbaekaaDoorQueue
import Derived.Laws.CopyOwn
namespace Go.Proofs.YtagjmkgbfbaekaaDoor
open Go.RowKit

/-- A row of the call's own, as cells. -/
theorem own_row {w : World} {base g n c : Nat} {e : TypeId} {xs : List Value} (h : w.ownsRow base e 1 (.slice (some ⟨g, 0, none⟩) n c) n xs) :
    ∃ cur : List Value, cur.length = c ∧ w.heap[g]? = some (.cells cur.toArray e (0, 0)) ∧ cur.take n = xs := by
  rcases h.2 with ⟨h, _⟩ | ⟨g', cap, cur, hv, hb, hg, hn, hcm, hcs, ht⟩
  · cases h
  · cases hv
    exact ⟨cur.toList, by simpa using hcs, by simpa using hg, by simpa using ht⟩
/-- A row as a slice. -/
theorem sl_row {w : World} {g n : Nat} {e : TypeId} {xs : List Value} (h : w.heap[g]? = some (.cells xs.toArray e (0, 0))) (hn : xs.length = n) (hm : n ≤ 65536) : Sl w w.heap.size (.slice (some ⟨g, 0, none⟩) n n) xs := by
  refine SlN.toSl (n := n) ⟨by omega, _, n, rfl, Nat.le_refl _, by unfold maxLen; omega, (fun h => by cases h), fun _ => ⟨g, 0, rfl, (Array.getElem?_eq_some_iff.1 h).1, fun j u hu => ?_⟩⟩
  rw [Blk.cell (t := e) h (0 + j)]
  simpa using hu
/-- What is left of a slice. -/
theorem SlN.drop_ {w : World} {B n c k : Nat} {b off : Nat} {xs : List Value} (h : SlN w B 1 (.slice (some ⟨b, off, none⟩) n c) n xs) (hk : k ≤ n) : SlN w B 1 (.slice (some ⟨b, off + k, none⟩) (n - k) (c - k)) (n - k) (xs.drop k) := by
  obtain ⟨hl, A', c', hv, hc, hm, h0, hx⟩ := h
  injection hv with e1 e2 e3
  subst e1; subst e3
  refine ⟨by simp; omega, _, _, rfl, by omega, by omega, (fun h => by cases h), fun hp => ?_⟩
  obtain ⟨b', off', hA, hB, hx⟩ := hx (by omega)
  cases hA
  refine ⟨b, off + k, rfl, hB, fun j u hu => ?_⟩
  rw [List.getElem?_drop] at hu
  rw [Nat.add_assoc]
  exact hx (k + j) u hu

set_option maxRecDepth 100000 in
set_option maxHeartbeats 800000 in
theorem qtake_any (g : Nat) (most : Int) (bs : List UInt8) (closed : Bool) (n : Int) (w : World) (h : QIs w g most bs closed) (hb : bs.length ≤ 16384) :
    Calls Tryd.prog 32 #[.pointer (some ⟨g, 0, none⟩), .int .i64 n] w fun e w' => ∃ v, e = .returned v ∧ Sl w' w'.heap.size v (bv (bs.take n.toNat)) ∧ Off v g ∧ QIs w' g most (bs.drop n.toNat) closed ∧ w.grownBy w' (some g) := by
  obtain ⟨i, hi, hz, hs1, hby⟩ := info_parts Tryd.infoU8
  obtain ⟨k, hk⟩ : ∃ k : Nat, k = min n.toNat bs.length := ⟨_, rfl⟩
  have e1 : bs.take n.toNat = bs.take k := by rw [hk]; exact (List.take_eq_take_min ..)
  have e2 : bs.drop n.toNat = bs.drop k := by
    rw [hk]
    rcases Nat.le_total n.toNat bs.length with h | h
    · rw [Nat.min_eq_left h]
    · rw [Nat.min_eq_right h, List.drop_eq_nil_of_le h, List.drop_length]
  rw [e1, e2]
  have hkb : k ≤ bs.length := by omega
  have hkm : (k : Int) = max 0 (min n bs.length) := by omega
  have HK := Lib.hid hkm
  clear hkm e1 e2 hk
  obtain ⟨u, hg, hu, ho⟩ := h
  have hg1 := hg.cell 1
  have hf1 := hg.frozen 1
  simp at hg1
  obtain ⟨ul, UA, uc, huv, huc, hum, hu0, hux⟩ := hu
  rw [bv_length] at huv huc hux ul
  subst huv
  have HUX := Lib.hid hux
  have HU0 := Lib.hid hu0
  clear hux hu0
  have HO := Lib.hid ho
  clear ho ul
  obtain ⟨m, hm⟩ : ∃ m, m = bs.length := ⟨_, rfl⟩
  have HM := Lib.hid hm
  rw [← hm] at hg1 hb huc hkb HK hg
  clear hm
  have hup : m ≤ 16384 := hb
  have hbc : Hid (Nat.min m k = k) := Nat.min_eq_right hkb
  obtain ⟨cs, hcse⟩ : ∃ cs, cs = (bv bs).take k := ⟨_, rfl⟩
  have HCE := Lib.hid hcse
  have hcs : Hid (cs.length = k) := by show _ = _; rw [hcse]; rw [List.length_take, bv_length, ← HM.out]; exact Nat.min_eq_left hkb
  have hc1 : Hid (∀ u ∈ cs, u.oneCell' = true) := by rw [hcse]; exact fun u hu => bv_one bs u (List.mem_of_mem_take hu)
  clear hcse
  have HPOS : Hid (∀ w1 : World, w.grownBy w1 none → 0 < cs.length → ∃ ad, UA = some ad ∧ ∀ j v, cs[j]? = some v → w1.cell? (ad.add j) = some v) := by
    intro w1 hg1 hp
    have hcl := hcs.out
    obtain ⟨b, off, hA, hb2, hx⟩ := HUX.out (by rw [← HM.out]; omega)
    refine ⟨_, hA, fun j v hv => ?_⟩
    rw [add_of_lit]
    have hj := (List.getElem?_eq_some_iff.1 hv).1
    have hc2 := World.cell?_of_block (a := ⟨b, off + j, none⟩) (hg1.block b hb2 (by simp))
    refine hc2.trans (hx j v ?_)
    rw [HCE.out] at hv
    rw [List.getElem?_take_of_lt (by omega)] at hv
    exact hv
  have HEND : Hid (∀ (w2 : World) (cur : List Value) (P : Option Addr) (n' c' : Nat), w2.heap[w.heap.size]? = some (.cells (splice cur 0 cs).toArray 5 (0, 0)) → cur.length = k → Below w.heap.size w w2 → n' = m - k → n' ≤ c' → c' ≤ maxLen → (P = none → c' = 0) →
      (P = UA ∧ (0 < n' → k = 0) ∨ ∃ a, UA = some a ∧ P = some (a.add k)) →
      ∃ v, Ending.returned (Value.slice (some ⟨w.heap.size, 0, none⟩) k k) = .returned v ∧ Sl (w2.setCell ⟨g, 1, none⟩ (.slice P n' c')) (w2.setCell ⟨g, 1, none⟩ (.slice P n' c')).heap.size v (bv (bs.take k)) ∧ Off v g ∧
        QIs (w2.setCell ⟨g, 1, none⟩ (.slice P n' c')) g most (bs.drop k) closed ∧ w.grownBy (w2.setCell ⟨g, 1, none⟩ (.slice P n' c')) (some g)) := by
    intro w2 cur P n' c' hrow hcl hb2 hn hnc hcm hP0 hP
    have hm := HM.out
    have hgl := hg.lt
    have hsp : splice cur 0 cs = cs := by
      have h1 := hcs.out
      simp only [splice, List.take_zero, List.nil_append, Nat.zero_add]
      rw [List.drop_eq_nil_of_le (by omega), List.append_nil]
    rw [hsp] at hrow
    have hk2 : w2.grownBy (w2.setCell ⟨g, 1, none⟩ (.slice P n' c')) (some g) := only_set (only_refl _ _) 1 _
    have hoff : Off (.slice P n' c') g := by
      intro b off n0 c0 hv
      injection hv with e1 e2 e3
      rcases hP with ⟨rfl, _⟩ | ⟨a, ha, hPa⟩
      · exact HO.out b off bs.length uc (by rw [e1])
      · rcases Nat.eq_zero_or_pos k with hk0 | hk0
        · subst hk0
          refine HO.out b off bs.length uc ?_
          rw [ha, ← e1, hPa]; rfl
        · obtain ⟨b', off', hA, _, _⟩ := HUX.out (by omega)
          rw [hA] at ha
          cases ha
          rw [hPa, add_of_lit] at e1
          cases e1
          exact HO.out b off' bs.length uc (by rw [hA])
    have hleft : Sl w w.heap.size (.slice P n' c') (bv (bs.drop k)) := by
      refine SlN.toSl (n := n') ⟨by rw [bv_length, List.length_drop]; omega, P, c', rfl, hnc, hcm, hP0, fun hp => ?_⟩
      obtain ⟨b, off, hA, hb3, hx⟩ := HUX.out (by omega)
      refine ⟨b, off + k, ?_, hb3, fun j u hu => ?_⟩
      · rcases hP with ⟨rfl, h0⟩ | ⟨a, ha, hPa⟩
        · rw [h0 hp, hA]; rfl
        · rw [hA] at ha
          cases ha
          rw [hPa, add_of_lit]
      · rw [bv_drop, List.getElem?_drop] at hu
        rw [Nat.add_assoc]
        exact hx (k + j) u hu
    refine ⟨_, rfl, ?_, ?_, ⟨_, by simpa using (hg.below hb2 hgl).set_ 1 (.slice P n' c'), ?_, hoff⟩, ?_⟩
    · have h1 := sl_row hrow hcs.out (by omega)
      have h2 : Off (.slice (some ⟨w.heap.size, 0, none⟩) k k) g := by intro b off n0 c0 hv; cases hv; omega
      have h3 := Sl.only h1 h2 hk2 (Nat.le_refl _)
      rw [bv_take, ← HCE.out]
      simpa [World.setCell] using h3
    · intro b off n0 c0 hv; cases hv; omega
    · have h3 := Sl.only ((hleft.below hb2).more hb2.size) hoff hk2 (Nat.le_refl _)
      simpa [World.setCell] using h3
    · exact only_set (only_of_below hb2 (some g)) 1 _
  have hcmx : uc ≤ 9223372036854775807 := hum
  have hca : ((m : Int) < n ∧ k = m ∧ 0 < k) ∨ (0 < n ∧ k = m ∧ k = 0) ∨ (n = k ∧ 0 < k) ∨ (n < 0 ∧ k = 0) ∨ (n = 0 ∧ k = 0) := by have := HK.out; omega
  clear HK
  rcases hca with ⟨h1, rfl, h2⟩ | ⟨h1, rfl, rfl⟩ | ⟨rfl, h2⟩ | ⟨h1, rfl⟩ | ⟨rfl, rfl⟩ <;> rcases UA with _ | ⟨ub, uo, us⟩
  all_goals
    go_enter Tryd.func32, Tryd.ntmps32
    go_wp2_with (first
      | (at_make; refine wpList_make_full _ rfl _ _ 31 rfl w.heap.size 5 i (.int .u8 0) 1 Tryd.underlying31 hi hz hs1 _ _ _ _ k rfl rfl (by first | rfl | omega) (by first | rfl | omega) (by rw [hby]; omega) (by unfold maxLen; omega) (Nat.le_refl _) ?_;
         intro w1 hown1 hgrow1;
         have hq1 := (cell_of_row w1 g 1 _ _ _ (hg.grown hgrow1 (by simp))).trans (by rfl : _ = some (Value.slice _ _ _));
         have hqf : w1.frozen? ⟨g, 1, none⟩ = false := (hg.grown hgrow1 (by simp)).frozen 1;
         have HC := Lib.hid (own_row hown1);
         have HW := Lib.hid hgrow1;
         clear hown1 hgrow1)
      | (at_make; refine wpList_make_full _ rfl _ _ 31 rfl w.heap.size 5 i (.int .u8 0) 1 Tryd.underlying31 hi hz hs1 _ _ _ _ 0 rfl rfl (by first | rfl | omega) (by first | rfl | omega) (by rw [hby]; omega) (by unfold maxLen; omega) (Nat.le_refl _) ?_;
         intro w1 hown1 hgrow1;
         have hq1 := (cell_of_row w1 g 1 _ _ _ (hg.grown hgrow1 (by simp))).trans (by rfl : _ = some (Value.slice _ _ _));
         have hqf : w1.frozen? ⟨g, 1, none⟩ = false := (hg.grown hgrow1 (by simp)).frozen 1;
         have HC := Lib.hid (own_row hown1);
         have HW := Lib.hid hgrow1;
         clear hown1 hgrow1)
      | (refine wpList_copy_splice rfl _ _ 31 31 rfl 5 Tryd.underlying31 (by rw [hi]; simp [hs1]) _ _ _ _ _ _ rfl rfl w.heap.size 0 HC.out.choose 5 HC.out.choose_spec.2.1 cs (hcs.out.trans hbc.out.symm) (fun hp => ⟨rfl, HPOS.out _ HW.out hp⟩)
           (by rw [hcs.out, HC.out.choose_spec.1]; omega) hc1.out w.heap.size w ((Below.refl _ _).grown HW.out (Nat.le_refl _) (fun j hj => by cases hj)) (Nat.le_refl _) ?_
         intro w2 HG2 hB2
         have hq2 := (cell_of_row w2 g 1 _ _ _ (hg.below hB2 hg.lt)).trans (by rfl : _ = some (Value.slice _ _ _))
         have hqf2 : w2.frozen? ⟨g, 1, none⟩ = false := (hg.below hB2 hg.lt).frozen 1
         have HB2 := Lib.hid hB2
         clear hB2)
      | fail)
  all_goals go_ret
  all_goals first
    | (have hz := HU0.out (by trivial); exact HEND.out w2 _ _ _ _ HG2.out HC.out.choose_spec.1 HB2.out (by omega) (by omega) (by unfold maxLen at *; omega) (by intro _; omega) (.inl ⟨rfl, by omega⟩))
    | exact HEND.out w2 _ _ _ _ HG2.out HC.out.choose_spec.1 HB2.out (by omega) (by omega) (by unfold maxLen at *; omega) (by rintro ⟨⟩) (by first | exact .inl ⟨rfl, by omega⟩ | exact .inr ⟨_, rfl, rfl⟩)
    | (have hz := HU0.out (by trivial); exact HEND.out w2 _ _ _ _ HG2.out HC.out.choose_spec.1 HB2.out (by omega) (by omega) (by unfold maxLen at *; omega) (by intro _; omega) (.inl ⟨rfl, by omega⟩))
end Go.Proofs.YtagjmkgbfbaekaaDoor
