/- The walk over tableaulaw05.ReaderMany. -/
import Derived.Test.YtihbgkighckiiaaDoorManyL
import Derived.Test.YtihbgkighckiiaaDoorRawApp
import Derived.Test.YtihbgkighckiiaaDoorROpen
import Derived.Test.YtihbgkighckiiaaDoorRef1
import Derived.Test.YtihbgkighckiiaaDoorRAwake
import Derived.Test.YtihbgkighckiiaaDoorPl
import Derived.Deep.CutBlock
import Derived.Deep.CutRange
import Derived.Deep.RegionWith
namespace Go.Proofs.YtihbgkighckiiaaDoor
open Go.RowKit
set_option maxRecDepth 100000

theorem own_ty {w : World} {b1 b2 n1 n2 s1 s2 : Nat} {T1 T2 : TypeId} {v1 v2 : Value} {xs1 xs2 : List Value} (h1 : w.ownsRow b1 T1 s1 v1 n1 xs1) (h2 : w.ownsRow b2 T2 s2 v2 n2 xs2) (hT : T1 ≠ T2) : v1.ownBlock = none ∨ v1.ownBlock ≠ v2.ownBlock := by
  rcases h1.2 with ⟨rfl, _⟩ | ⟨g1, c1, cur1, rfl, _, hg1, _⟩
  · exact .inl rfl
  · rcases h2.2 with ⟨rfl, _⟩ | ⟨g2, c2, cur2, rfl, _, hg2, _⟩
    · exact .inr (by simp [Value.ownBlock])
    · refine .inr fun h => hT ?_
      simp only [Value.ownBlock, Option.some.injEq] at h
      subst h
      rw [hg1] at hg2
      injection hg2 with hg2
      injection hg2
theorem own_blk_ty {w : World} {b1 n1 s1 g : Nat} {T1 T2 : TypeId} {v1 : Value} {xs1 : List Value} {cs : Array Value} (h1 : w.ownsRow b1 T1 s1 v1 n1 xs1) (h2 : Blk w g T2 cs) (hT : T1 ≠ T2) : some g ≠ v1.ownBlock := by
  rcases h1.2 with ⟨rfl, _⟩ | ⟨g1, c1, cur1, rfl, _, hg1, _⟩
  · simp [Value.ownBlock]
  · intro h
    simp only [Value.ownBlock, Option.some.injEq] at h
    subst h
    unfold Blk at h2
    rw [hg1] at h2
    injection h2 with h2
    injection h2 with _ h2
    exact hT h2
def MJ (w : World) (gx : Nat) (x : RawD) (v3 v4 : Value) (b : List UInt8) (W : List RawD) (wr : World) : Prop :=
  wr.ownsRow w.heap.size 5 1 v3 b.length (bv b) ∧ wr.ownsRow w.heap.size 50 3 v4 W.length (rawCells W) ∧ Blk wr gx 50 #[.int .i64 x.1, .int .i64 x.2.1, .string x.2.2] ∧ Below w.heap.size w wr ∧ v4.ownBlock ≠ some gx
section
variable {w wr w' : World} {gx : Nat} {x : RawD} {v3 v4 : Value} {b : List UInt8} {W : List RawD}
theorem MJ.below (h : MJ w gx x v3 v4 b W wr) (hb : Below wr.heap.size wr w') : MJ w gx x v3 v4 b W w' :=
  ⟨own_later' h.1 hb, own_later' h.2.1 hb, h.2.2.1.below hb h.2.2.1.lt, h.2.2.2.1.trans (hb.mono h.2.2.2.1.size), h.2.2.2.2⟩
theorem below_of_own {base n s : Nat} {T : TypeId} {v : Value} {xs : List Value} (ho : wr.ownsRow base T s v n xs) (hb : base ≤ wr.heap.size) (hg : wr.grownBy w' v.ownBlock) : Below base wr w' :=
  (Below.refl base wr).grown hg hb (fun b hb2 => by
    rcases ho.2 with ⟨rfl, _⟩ | ⟨b2, cap, cur, rfl, hb3, _⟩
    · simp [Value.ownBlock] at hb2
    · simp [Value.ownBlock] at hb2; omega)
theorem MJ.grow {v3' : Value} {b' : List UInt8} (h : MJ w gx x v3 v4 b W wr) (h2 : w'.ownsRow w.heap.size 5 1 v3' b'.length (bv b')) (h3 : wr.grownBy w' v3.ownBlock) : MJ w gx x v3' v4 b' W w' :=
  ⟨h2, h.2.1.kept h3 (own_ty h.2.1 h.1 (by decide)), h.2.2.1.grown h3 (own_blk_ty h.1 h.2.2.1 (by decide)), h.2.2.2.1.trans (below_of_own h.1 h.2.2.2.1.size h3), h.2.2.2.2⟩
theorem mj_put {g8 : Nat} {y : Int} {b2 : List UInt8} (ty : TypeId) (hb2 : b2 = b ++ le4 y) (h : MJ w gx x v3 v4 b W wr) (hk : Blk wr g8 5 (bv (le4 y)).toArray) (hb : b.length ≤ 60000) :
    ∃ v' w', (Builtin.append_ #[30, 30] ty #[v3, .slice (some ⟨g8, 0, none⟩) 4 4]).run Tryd.prog wr = .ok v' w' ∧ Hid (MJ w gx x v' v4 b2 W w') := by
  subst hb2
  obtain ⟨i, hi, hz, hsz, hby⟩ := info_parts Tryd.infoU8
  obtain ⟨v', w', hr, h2, h3, _⟩ := run_append_own (P := Tryd.prog) (w := wr) w.heap.size 30 ty 5 i _ 1 1 Tryd.underlying30 hi hz hsz hby rfl (by decide) v3 b.length (bv b) h.1 ⟨g8, 0, none⟩ 4 4 (bv (le4 y)) (by rw [bv_length]; rfl)
    (fun j u hu => by rw [add_of_lit, hk.cell]; simpa using hu) (bv_one _) (by unfold maxLen; omega) (by omega) h.2.2.2.1.size
  refine ⟨v', w', hr, h.grow ?_ h3⟩
  rw [bv_append, List.length_append]; exact h2
theorem mj_str {s : ByteArray} {b2 : List UInt8} (ty : TypeId) (hb2 : b2 = b ++ s.data.toList) (h : MJ w gx x v3 v4 b W wr) (hb : b.length ≤ 60000) (hs : s.size ≤ 400) :
    ∃ v' w', (Builtin.append_ #[30, 9] ty #[v3, .string s]).run Tryd.prog wr = .ok v' w' ∧ Hid (MJ w gx x v' v4 b2 W w') := by
  subst hb2
  obtain ⟨i, hi, hz, hsz, hby⟩ := info_parts Tryd.infoU8
  obtain ⟨v', w', hr, h2, h3, _⟩ := Lib.run_append_own_string (P := Tryd.prog) (w := wr) w.heap.size 30 9 ty 5 i Tryd.underlying30 Tryd.underlying9 hi hz hsz hby v3 b.length (bv b) h.1 s
    (by unfold maxLen; omega) (by omega) h.2.2.2.1.size
  refine ⟨v', w', hr, h.grow ?_ h3⟩
  rw [bv_append, List.length_append, str_length]; exact h2
theorem mj_want {W2 : List RawD} (ty : TypeId) (hW2 : W2 = W ++ [x]) (h : MJ w gx x v3 v4 b W wr) (hW : W.length ≤ 60000) :
    ∃ v' w', (Builtin.append_ #[69, 69] ty #[v4, .slice (some ⟨wr.heap.size, 0, none⟩) 1 1]).run Tryd.prog (wr.alloc (.cells #[.int .i64 x.1, .int .i64 x.2.1, .string x.2.2] 50)) = .ok v' w' ∧
      Hid (w'.ownsRow w.heap.size 5 1 v3 b.length (bv b) ∧ w'.ownsRow w.heap.size 50 3 v' W2.length (rawCells W2) ∧ Below w.heap.size w w') := by
  subst hW2
  obtain ⟨i, hi, hz, hsz, hby⟩ := info_parts Tryd.infoRaw
  obtain ⟨h1, h2, h3, h4, _⟩ := h
  have k1 := h1.alloc (.cells #[.int .i64 x.1, .int .i64 x.2.1, .string x.2.2] 50)
  have k2 := h2.alloc (.cells #[.int .i64 x.1, .int .i64 x.2.1, .string x.2.2] 50)
  have hb1 := h4.alloc h4.size (.cells #[.int .i64 x.1, .int .i64 x.2.1, .string x.2.2] 50)
  have hlit : ∀ j u, [Value.int .i64 x.1, .int .i64 x.2.1, .string x.2.2][j]? = some u → (wr.alloc (.cells #[.int .i64 x.1, .int .i64 x.2.1, .string x.2.2] 50)).cell? ((⟨wr.heap.size, 0, none⟩ : Addr).add j) = some u := fun j u hu => by
    rw [add_of_lit, (Blk.new wr 50 _).cell]; simpa using hu
  obtain ⟨v', w', hr, g2, g3, _⟩ := run_append_own (P := Tryd.prog) (w := wr.alloc (.cells #[.int .i64 x.1, .int .i64 x.2.1, .string x.2.2] 50)) w.heap.size 69 ty 50 i _ 3 32 Tryd.underlying69 hi hz hsz hby rfl (by decide) v4 W.length (rawCells W)
    k2 ⟨wr.heap.size, 0, none⟩ 1 1 [.int .i64 x.1, .int .i64 x.2.1, .string x.2.2] rfl hlit (by intro u hu; simp at hu; rcases hu with rfl | rfl | rfl <;> rfl) (by unfold maxLen; omega) (by omega) hb1.size
  refine ⟨v', w', hr, k1.kept g3 (own_ty k1 k2 (by decide)), ?_, hb1.trans (below_of_own k2 hb1.size g3)⟩
  rw [rawCells_app, List.length_append]; exact g2
end

section
variable {w w1 : World} {gx : Nat} {o p o2 p2 : Int} {s : ByteArray} {v3 v4 : Value} {b : List UInt8} {W : List RawD}
theorem mj_only {w2 : World} {x y : RawD} (h : MJ w gx x v3 v4 b W w1) (hg : w1.grownBy w2 (some gx)) (hw : w.heap.size ≤ gx) (hk : Blk w2 gx 50 #[.int .i64 y.1, .int .i64 y.2.1, .string y.2.2]) : MJ w gx y v3 v4 b W w2 :=
  ⟨h.1.kept hg (.inr (fun e => own_blk_ty h.1 h.2.2.1 (by decide) e.symm)), h.2.1.kept hg (.inr h.2.2.2.2), hk, below_of_only h.2.2.2.1 hg h.2.2.2.1.size hw, h.2.2.2.2⟩
theorem mj_set01 (n : Nat) (h : MJ w gx (o, p, s) v3 v4 b W w1) (hw : w.heap.size ≤ gx) : MJ w gx (o2, p2, s) v3 v4 b W (((w1.setCell ⟨gx, 0, none⟩ (.int .i64 o2)).setCell ⟨gx, 1, none⟩ (.int .i64 p2)).drewN n) :=
  mj_only h (only_drewN (only_set (only_set (only_refl _ _) 0 _) 1 _) n) hw ((((h.2.2.1).set_ 0 _).set_ 1 _).drewN n)
end
def ManyRel (w : World) (l : List RawD) (n : Nat) (v3 v4 a : Value) (wr : World) : Prop :=
  ∃ (i : Nat) (W : List RawD), i ≤ n ∧ i ≤ 30 ∧ a = .int .i64 i ∧ W = wantsL (l.take i) ∧ wr.ownsRow w.heap.size 5 1 v3 (manyB W).length (bv (manyB W)) ∧ wr.ownsRow w.heap.size 50 3 v4 W.length (rawCells W) ∧ Below w.heap.size w wr

set_option maxHeartbeats 6400000 in
theorem rmany_walk (A : Nat → Addr) (lv : Value) (l : List RawD) (w : World) (hE : Errs w w.heap.size allErrs A) (hl : RawsIs w lv l) :
    Calls Tryd.prog 11 #[lv] w fun e w' => e = .returned (.bool true) ∧ Below w.heap.size w w' := by
  have HE := Lib.hid hE
  have H2 : (2 : Nat) ∈ allErrs := mem_all 2 (by omega) (by omega)
  have H3 : (3 : Nat) ∈ allErrs := mem_all 3 (by omega) (by omega)
  have H4 : (4 : Nat) ∈ allErrs := mem_all 4 (by omega) (by omega)
  obtain ⟨_, LA, lc, rfl, hlc, hlm, _, hlx⟩ := hl
  have HL := Lib.hid (raw_at hlx)
  obtain ⟨n, hn⟩ : ∃ n, n = l.length := ⟨_, rfl⟩
  rw [← hn] at hlc ⊢
  have HN := Lib.hid hn
  unfold maxLen at hlm
  clear hE hlx hn
  go_enter Tryd.func11, Tryd.ntmps11
  go_wp2_with fail
  go_loopw [3, 4, 5] (ManyRel w l n) (fun _ _ a _ => 30 - (intOf a).toNat)
  case atStart => exact ⟨0, [], by omega, by omega, rfl, rfl, World.ownsRow_nil _ _ _ _, World.ownsRow_nil _ _ _ _, Below.refl _ _⟩
  case round =>
    obtain ⟨i, W, hi1, hi2, rfl, hW, ho3, ho4, hb⟩ := hrel
    have HW := Lib.hid hW
    have HO3 := Lib.hid ho3
    have HO4 := Lib.hid ho4
    have HB := Lib.hid hb
    have hWn : W.length ≤ 30 := by have := wantsL_length l i; rw [← hW] at this; omega
    have hbn : (manyB W).length ≤ 12240 := by have := manyB_length W (by rw [hW]; exact wantsL_ok _); omega
    obtain ⟨A3, c3, rfl⟩ := own_slice' ho3
    obtain ⟨A4, c4, rfl⟩ := own_slice' ho4
    obtain ⟨bs, hbs⟩ : ∃ bs, bs = manyB W := ⟨_, rfl⟩
    rw [← hbs] at hbn HO3 ⊢
    have HBS := Lib.hid hbs
    clear hW ho3 ho4 hb hbs
    by_cases hin : i < n ∧ i < 30
    · obtain ⟨hin1, hin2⟩ := hin
      have HWs : Hid (wantsL (l.take (i + 1)) = W ++ mOne (l[i]'(by have := HN.out; omega))) := by show _ = _; rw [wantsL_take _ _ (by have := HN.out; omega), ← HW.out]
      obtain ⟨bl, ol, hA, hblt, c0, c1, c2⟩ := HL.out i (by have := HN.out; omega)
      subst hA
      obtain ⟨⟨o, p, s⟩, hx⟩ : ∃ x, x = l[i]'(by have := HN.out; omega) := ⟨_, rfl⟩
      rw [← hx] at c0 c1 c2 HWs
      simp only at c0 c1 c2
      have d0 : wr.cell? ⟨bl, ol + i * 3, none⟩ = some (.int .i64 o) := (HB.out.cell (p := ⟨bl, ol + i * 3, none⟩) hblt).trans c0
      have d1 : wr.cell? ⟨bl, ol + i * 3 + 1, none⟩ = some (.int .i64 p) := (HB.out.cell (p := ⟨bl, ol + i * 3 + 1, none⟩) hblt).trans c1
      have d2 : wr.cell? ⟨bl, ol + i * 3 + 2, none⟩ = some (.string s) := (HB.out.cell (p := ⟨bl, ol + i * 3 + 2, none⟩) hblt).trans c2
      clear hx c0 c1 c2
      have hnone : Hid (mFit (o, p, s) = false → ManyRel w l n (.slice A3 bs.length c3) (.slice A4 W.length c4) (.int .i64 (i + 1 : Nat)) (wr.alloc (.cells #[.int .i64 o, .int .i64 p, .string s] 50))) := fun h => by
        refine ⟨i + 1, W, by omega, by omega, rfl, ?_, ?_, HO4.out.alloc _, HB.out.alloc HB.out.size _⟩
        · rw [HWs.out]; simp [mOne, h]
        · rw [← HBS.out]; exact HO3.out.alloc _
      go_upto_region 7 with (fail)
      obtain ⟨gx, hgx⟩ : ∃ gx, gx = wr.heap.size := ⟨_, rfl⟩
      have hblk : Blk (wr.alloc (.cells #[.int .i64 o, .int .i64 p, .string s] 50)) wr.heap.size 50 #[.int .i64 o, .int .i64 p, .string s] := Blk.new _ _ _
      have hoff : (Value.slice A4 W.length c4).ownBlock ≠ some wr.heap.size := by
        rcases HO4.out.2 with ⟨he, _⟩ | ⟨b2, cap, cur, he, hb3, hcur, _⟩
        · rw [he]; simp [Value.ownBlock]
        · have := (Array.getElem?_eq_some_iff.1 hcur).1
          rw [he]; simp [Value.ownBlock]; omega
      have hmj : MJ w wr.heap.size (o, p, s) (.slice A3 bs.length c3) (.slice A4 W.length c4) bs W (wr.alloc (.cells #[.int .i64 o, .int .i64 p, .string s] 50)) :=
        ⟨HO3.out.alloc _, HO4.out.alloc _, hblk, HB.out.alloc HB.out.size _, hoff⟩
      have HMJ := Lib.hid hmj
      have HBK := Lib.hid hblk
      rw [← hgx] at HMJ HBK ⊢
      have HGXE := Lib.hid hgx
      clear hblk hoff hmj hgx d0 d1 d2
      generalize wr.alloc (.cells #[.int .i64 o, .int .i64 p, .string s] 50) = w1 at hnone HMJ HBK ⊢
      have k0 : w1.cell? ⟨gx, 0, none⟩ = some (.int .i64 o) := HBK.out.cell 0
      have k1 : w1.cell? ⟨gx, 1, none⟩ = some (.int .i64 p) := HBK.out.cell 1
      have k2 : w1.cell? ⟨gx, 2, none⟩ = some (.string s) := HBK.out.cell 2
      cases hfit : mFit (o, p, s) with
      | false =>
        have HNO := Lib.hid (hnone.out hfit)
        have hca : 400 < s.size ∨ (s.size ≤ 400 ∧ s.size % 4 ≠ 0) := by
          unfold mFit at hfit
          simp only [decide_eq_false_iff_not] at hfit
          omega
        clear hfit
        rcases hca with hc | ⟨hc, hc2⟩
        · have e1 : decide (400 < (s.size : Int)) = true := by simp; omega
          clear hc
          go_wp2_with fail
          go_roundw
          case rel => exact HNO.out
          case measure => simp [intOf]; omega
        · have e1 : decide (400 < (s.size : Int)) = false := by simp; omega
          have e2 : ((s.size : Int) % 4 != 0) = true := by rw [bne_iff_ne]; omega
          clear hc hc2
          go_wp2_with fail
          go_roundw
          case rel => exact HNO.out
          case measure => simp [intOf]; omega
      | true =>
        obtain ⟨hs4, hs5⟩ : s.size ≤ 400 ∧ s.size % 4 = 0 := by unfold mFit at hfit; simpa using hfit
        have HONE : Hid (mOne (o, p, s) = [(o % 4294967296, p % 65536, s)]) := by show _ = _; unfold mOne mCut; rw [hfit]; rfl
        have e1 : decide (400 < (s.size : Int)) = false := by simp; omega
        have e2 : ((s.size : Int) % 4 != 0) = false := by rw [bne_eq_false_iff_eq]; omega
        have HS5 := Lib.hid hs5
        clear hfit hs5
        have e3 : decide ((i : Int) < 30) = true := by simp; omega
        have f0 : w1.frozen? ⟨gx, 0, none⟩ = false := HBK.out.frozen 0
        have f1 : w1.frozen? ⟨gx, 1, none⟩ = false := HBK.out.frozen 1
        have o1 := Int.emod_nonneg o (show (4294967296 : Int) ≠ 0 by omega)
        have o2 := Int.emod_lt_of_pos o (show (0 : Int) < 4294967296 by omega)
        have p1 := Int.emod_nonneg p (show (65536 : Int) ≠ 0 by omega)
        have p2 := Int.emod_lt_of_pos p (show (0 : Int) < 65536 by omega)
        go_upto_region 8 with (fail)
        go_cut [] from 18 to 77 (fun wc => Hid (MJ w gx (o % 4294967296, p % 65536, s) (.slice A3 bs.length c3) (.slice A4 W.length c4) bs W wc))
        case first =>
          have HGX : Hid (w.heap.size ≤ gx) := by show _ ≤ _; rw [HGXE.out]; exact HB.out.size
          clear HL hnone HWs HW HBS HBK HN HE HB HO3 HO4 HONE HGXE
          go_region_with (go_at_call 19; refine (place_any _ _ _ (by omega) (by omega)).mono ?_; rintro e w' ⟨rfl, rfl⟩)
          all_goals go_wp2_with fail
          all_goals go_meet
          all_goals exact mj_set01 1 HMJ.out HGX.out
        case rest =>
          have HMJ2 := Lib.hid hcut.out
          clear hcut HMJ HBK k0 k1 k2 f0 f1 hnone
          obtain ⟨o', ho'⟩ : ∃ o', o' = o % 4294967296 := ⟨_, rfl⟩
          obtain ⟨p', hp'⟩ : ∃ p', p' = p % 65536 := ⟨_, rfl⟩
          rw [← ho'] at o1 o2 HONE HMJ2
          rw [← hp'] at p1 p2 HONE HMJ2
          clear ho' hp'
          have k0 : wc.cell? ⟨gx, 0, none⟩ = some (.int .i64 o') := HMJ2.out.2.2.1.cell 0
          have e5 : o' % 4294967296 = o' := Int.emod_eq_of_lt o1 o2
          obtain ⟨b2, HB2⟩ : ∃ b2, Hid (b2 = bs ++ le4 o') := ⟨_, rfl⟩
          obtain ⟨b3, HB3⟩ : ∃ b3, Hid (b3 = b2 ++ le4 (((s.size : Int) + 8) * 65536 + p')) := ⟨_, rfl⟩
          obtain ⟨b4, HB4⟩ : ∃ b4, Hid (b4 = b3 ++ s.data.toList) := ⟨_, rfl⟩
          obtain ⟨W2, HW2⟩ : ∃ W2, Hid (W2 = W ++ [(o', p', s)]) := ⟨_, rfl⟩
          have l2 : b2.length ≤ 20000 := by rw [HB2.out, List.length_append, le4_length]; omega
          have l3 : b3.length ≤ 30000 := by rw [HB3.out, List.length_append, le4_length]; omega
          go_wp2_with fail
          refine (rput_any o' wc o1 o2).mono ?_
          rintro e w5 ⟨rfl, hb8, hb5⟩
          have HMJ5 := Lib.hid (HMJ2.out.below hb5)
          have HB8 := Lib.hid hb8
          have hp0 : p' % 4294967296 = p' := Int.emod_eq_of_lt p1 (by omega)
          have hn8 : ((s.size : Int) + 8) % 4294967296 = (s.size : Int) + 8 := Int.emod_eq_of_lt (by omega) (by omega)
          clear hb8 hb5 k0
          go_upto_region 10 with (
            at_builtin
            refine wpList_app rfl _ _ _ _ rfl _ _ rfl rfl _ (mj_put _ HB2.out HMJ5.out HB8.out (by omega)) ?_
            intro v6 w6 hR6
            obtain ⟨A6, c6, rfl⟩ := own_slice' hR6.out.1)
          have k2 : w6.cell? ⟨gx, 2, none⟩ = some (.string s) := hR6.out.2.2.1.cell 2
          have k1 : w6.cell? ⟨gx, 1, none⟩ = some (.int .i64 p') := hR6.out.2.2.1.cell 1
          go_wp2_with fail
          refine (rput_any (((s.size : Int) + 8) * 65536 + p') w6 (by omega) (by omega)).mono ?_
          rintro e w7 ⟨rfl, hb8, hb7⟩
          have HMJ7 := Lib.hid (hR6.out.below hb7)
          have HB9 := Lib.hid hb8
          clear hb8 hb7 k1 k2 hR6 HMJ5 HB8
          go_upto_region 11 with (
            at_builtin
            refine wpList_app rfl _ _ _ _ rfl _ _ rfl rfl _ (mj_put _ HB3.out HMJ7.out HB9.out (by omega)) ?_
            intro v8 w8 hR8
            obtain ⟨A8, c8, rfl⟩ := own_slice' hR8.out.1)
          have k2 : w8.cell? ⟨gx, 2, none⟩ = some (.string s) := hR8.out.2.2.1.cell 2
          go_upto_region 12 with (
            at_builtin
            refine wpList_app rfl _ _ _ _ rfl _ _ rfl rfl _ (mj_str _ HB4.out hR8.out (by omega) hs4) ?_
            intro v9 w9 hR9
            obtain ⟨A9, c9, rfl⟩ := own_slice' hR9.out.1)
          have k3 : w9.cell? ⟨gx, 0, none⟩ = some (.int .i64 o') := hR9.out.2.2.1.cell 0
          have k4 : w9.cell? ⟨gx, 1, none⟩ = some (.int .i64 p') := hR9.out.2.2.1.cell 1
          have k5 : w9.cell? ⟨gx, 2, none⟩ = some (.string s) := hR9.out.2.2.1.cell 2
          go_wp2_with (
            at_builtin
            refine wpList_app rfl _ _ _ _ rfl _ _ rfl rfl _ (mj_want _ HW2.out hR9.out (by omega)) ?_
            intro v10 w10 hR10
            obtain ⟨A10, c10, rfl⟩ := own_slice' hR10.out.2.1)
          go_roundw
          case rel =>
            refine ⟨i + 1, W2, by omega, by omega, by go_num, ?_, ?_, hR10.out.2.1, hR10.out.2.2⟩
            · rw [HWs.out, HONE.out, HW2.out]
            · have e : manyB W2 = b4 := by
                rw [HW2.out, manyB_app, ← HBS.out, HB4.out, HB3.out, HB2.out]
                simp [manyB, mB]
              rw [e]
              exact hR10.out.1
          case measure => simp [intOf]; omega
    · have hin' : n ≤ i ∨ (i < n ∧ 30 ≤ i) := by omega
      clear hin
      have HFM : Hid (feedL bs = (W, [], 0)) := by show _ = _; rw [HBS.out]; exact feedL_many W (by rw [HW.out]; exact wantsL_ok _)
      have HSV := Lib.hid (Sl.of_own HO3.out)
      rcases hin' with hx | ⟨hx, hx2⟩
      all_goals
        go_wp2_with fail
        refine (new_any A wr).mono ?_
        rintro e w1 ⟨rfl, hr1, hb1⟩
        obtain ⟨g, hg⟩ : ∃ g, g = wr.heap.size := ⟨_, rfl⟩
        rw [← hg] at hr1 ⊢
        have HG := Lib.hid hg
        have HR1 := Lib.hid hr1
        have HB1 := Lib.hid (HB.out.trans (hb1.mono HB.out.size))
        have HS1 := Lib.hid ((HSV.out.below hb1).more hb1.size)
        have HW1 : Hid (SlN w1 w1.heap.size 3 (.slice A4 W.length c4) W.length (rawCells W)) := (SlN.of_own (own_later' HO4.out hb1))
        have HO41 := Lib.hid (own_later' HO4.out hb1)
        have HGl : Hid (w.heap.size ≤ g) := by show _ ≤ _; rw [hg]; exact HB.out.size
        have hoff : Hid ((Value.slice A4 W.length c4).ownBlock = none ∨ (Value.slice A4 W.length c4).ownBlock ≠ some g) := by
          refine .inr ?_
          rcases HO4.out.2 with ⟨he, _⟩ | ⟨b2, cap, cur, he, hb3, hcur, _⟩
          · rw [he]; simp [Value.ownBlock]
          · have := (Array.getElem?_eq_some_iff.1 hcur).1
            rw [he]; simp [Value.ownBlock]; omega
        clear hg hr1 hb1
        go_wp2_with fail
        refine (feed_any A allErrs H2 H3 H4 g [] 0 _ bs w1 (HE.out.to HB1.out HB1.out.size) HR1.out HS1.out (fun _ => by simp; omega)).mono ?_
        rintro e w2 ⟨vl, rfl, hown2, hr2, hg2⟩
        have hfd : fed [] 0 bs = (W, [], 0) := by unfold fed; rw [if_neg (by omega), List.nil_append, HFM.out]
        rw [hfd] at hown2 hr2 ⊢
        simp only at hown2 hr2 ⊢
        have HB2 := Lib.hid (below_of_only HB1.out hg2 HB1.out.size HGl.out)
        have HR2 := Lib.hid hr2
        have HO2 := Lib.hid hown2
        have HO42 := Lib.hid (HO41.out.kept hg2 hoff.out)
        obtain ⟨A2, c2, rfl⟩ := own_slice' hown2
        rw [errV_zero]
        clear hfd hown2 hr2 hg2
        go_wp2_with fail
        refine (head_any A allErrs _ [] w2 (Sl.nil_ _ _) (HE.out.to HB2.out HB2.out.size) H2 H3 H4).mono ?_
        rintro e w3 ⟨rfl, hb3⟩
        have h20 : headE [] = 2 := by decide +kernel
        rw [h20, errV_pos A (by omega)]
        have HB3 := Lib.hid (HB2.out.trans (hb3.mono HB2.out.size))
        have HR3 := Lib.hid (HR2.out.below hb3)
        have HO3' := Lib.hid (own_later' HO2.out hb3)
        have HO43 := Lib.hid (own_later' HO42.out hb3)
        clear hb3 h20
        go_wp2_with fail
        refine (rhead_any _ [] w3 (Sl.nil_ _ _)).mono ?_
        rintro e w4 ⟨rfl, hb4⟩
        have h20 : headE [] = 2 := by decide +kernel
        rw [h20]
        have HB4 := Lib.hid (HB3.out.trans (hb4.mono HB3.out.size))
        have HR4 := Lib.hid (HR3.out.below hb4)
        have HO5' := Lib.hid (own_later' HO3'.out hb4)
        have HO44 := Lib.hid (own_later' HO43.out hb4)
        clear hb4 h20
        go_wp2_with fail
        refine (same_any _ _ W w4 (SlN.of_own HO5'.out) (SlN.of_own HO44.out)).mono ?_
        rintro e w5 ⟨rfl, q, rfl⟩
        have HBq : Hid (Below w.heap.size w (w4.drewN q)) := below_drewN HB4.out q
        have HRq : Hid (RIs A (w4.drewN q) g [] 0) := HR4.out
        generalize w4.drewN q = w5 at HBq HRq ⊢
        go_wp2_with fail
        refine (left_any A g [] 0 w5 HRq.out).mono ?_
        rintro e w6 ⟨rfl, rfl⟩
        go_wp2_with fail
        refine (kind_err A 2 (by omega) (by omega) w5 (HE.out.to HBq.out HBq.out.size)).mono ?_
        rintro e w6 ⟨rfl, hb6⟩
        have HB6 := Lib.hid (HBq.out.trans (hb6.mono HBq.out.size))
        clear hb6
        go_wp2_with fail
        refine (w5awake_any A allErrs H2 H3 H4 w6 (HE.out.to HB6.out HB6.out.size)).mono ?_
        rintro e w7 ⟨rfl, hb7⟩
        go_wp2
        go_ret
        exact ⟨rfl, HB6.out.trans (hb7.mono HB6.out.size)⟩
end Go.Proofs.YtihbgkighckiiaaDoor
