/- sig.of, sig.asked. No condition. -/
import Derived.Test.YtagjmkgbfbaekaaDoorSigTab
import Derived.Deep.QuietTactic
import Derived.BigQuiet
import Derived.Outline
namespace Go.Proofs.YtagjmkgbfbaekaaDoor
open Go.RowKit
set_option maxRecDepth 100000

/-- Which interface: none is 0. -/
def fc (face : Int) : Nat := if 0 ≤ face ∧ face < 18 then face.toNat else 0
theorem fc_lt (face : Int) : fc face < 18 := by unfold fc; split <;> omega
theorem tabArr_at (R E : Nat → Value) (f : Nat) (h : f < 18) : (tabArr R E)[f * 3]? = some (.string (nameOf f)) ∧ (tabArr R E)[f * 3 + 1]? = some (R f) ∧ (tabArr R E)[f * 3 + 2]? = some (E f) := by
  have : f = 0 ∨ f = 1 ∨ f = 2 ∨ f = 3 ∨ f = 4 ∨ f = 5 ∨ f = 6 ∨ f = 7 ∨ f = 8 ∨ f = 9 ∨ f = 10 ∨ f = 11 ∨ f = 12 ∨ f = 13 ∨ f = 14 ∨ f = 15 ∨ f = 16 ∨ f = 17 := by omega
  rcases this with rfl | rfl | rfl | rfl | rfl | rfl | rfl | rfl | rfl | rfl | rfl | rfl | rfl | rfl | rfl | rfl | rfl | rfl <;> exact ⟨rfl, rfl, rfl⟩
theorem tabArr_size (R E : Nat → Value) : (tabArr R E).size = 54 := rfl
/-- A kind, as it is handed back. -/
def KindIs (w : World) (f : Nat) (r e : Value) : Prop := SlN w w.heap.size 3 r (reqsOf f).length (reqCells (reqsOf f)) ∧ SlN w w.heap.size 1 e (evsOf f).length ((evsOf f).map Value.string)
theorem KindIs.below {w w' : World} {f : Nat} {r e : Value} (h : KindIs w f r e) (hb : Below w.heap.size w w') : KindIs w' f r e := ⟨(h.1.below hb).more hb.size, (h.2.below hb).more hb.size⟩
theorem kind_zero (w : World) : KindIs w 0 (.slice none 0 0) (.slice none 0 0) :=
  ⟨⟨rfl, none, 0, rfl, Nat.le_refl _, by simp, fun _ => rfl, fun h => absurd h (Nat.lt_irrefl _)⟩, ⟨rfl, none, 0, rfl, Nat.le_refl _, by simp, fun _ => rfl, fun h => absurd h (Nat.lt_irrefl _)⟩⟩
theorem SlN.form {w : World} {B k n : Nat} {v : Value} {xs : List Value} (h : SlN w B k v n xs) : ∃ A c, v = .slice A n c ∧ n ≤ c := by
  obtain ⟨_, A, c, hv, hc, _⟩ := h
  exact ⟨A, c, hv, hc⟩

theorem SlN.only_from {w w' : World} {B B' k n g : Nat} {v : Value} {xs : List Value} (h : SlN w B k v n xs) (hf : From v B') (hg : w.grownBy w' (some g)) (hB : B ≤ w.heap.size) (hg' : g < B') : SlN w' B k v n xs := by
  obtain ⟨hl, A, c, rfl, hc, hm, h0, hx⟩ := h
  refine ⟨hl, A, c, rfl, hc, hm, h0, fun hn => ?_⟩
  obtain ⟨b, off, rfl, hb, hx⟩ := hx hn
  have hne : b ≠ g := by have := hf b off n c rfl; omega
  exact ⟨b, off, rfl, hb, fun j u hu => (World.cell?_of_block (a := ⟨b, off + j, none⟩) (hg.block b (by omega) (fun e => hne (by injection e)))).trans (hx j u hu)⟩

set_option maxHeartbeats 1600000 in
theorem of_any (face : Int) (w : World) : Calls Tryd.prog 53 #[.int .i64 face] w fun e w' => ∃ r ev, e = .returned (.agg #[.string (nameOf (fc face)), r, ev]) ∧ KindIs w' (fc face) r ev ∧ Below w.heap.size w w' := by
  have hin : Hid (∀ f : Nat, f < 18 → fc f = f) := fun f hf => by unfold fc; rw [if_pos (by omega)]; omega
  have hout : Hid (∀ f : Int, f < 0 ∨ 18 ≤ f → fc f = 0) := fun f hf => by unfold fc; rw [if_neg (by omega)]
  have hca : face < 0 ∨ (0 ≤ face ∧ 18 ≤ face) ∨ ∃ f : Nat, face = f ∧ f < 18 := by
    rcases Int.lt_or_le face 0 with h | h
    · exact .inl h
    · rcases Int.lt_or_le face 18 with h2 | h2
      · exact .inr (.inr ⟨face.toNat, by omega, by omega⟩)
      · exact .inr (.inl ⟨h, h2⟩)
  go_enter Tryd.func53, Tryd.ntmps53
  go_wp2_with fail
  rename_i K hK
  refine (table_any _).mono ?_
  rintro e w1 ⟨R, E, rfl, htab, hb1⟩
  have HT := Lib.hid htab
  have HB1 := Lib.hid hb1
  have hg0 := Blk.below (Blk.new w 97 #[.string ⟨#[]⟩, .slice none 0 0, .slice none 0 0]) hb1 (by simp)
  have hw1 : w.heap.size + 1 ≤ w1.heap.size := by have := hb1.size; simpa using this
  have hall : (tabArr R E).all (·.oneCell') = true := by
    have hR : ∀ f, f < 18 → (R f).oneCell' = true ∧ (E f).oneCell' = true := fun f hf => by
      obtain ⟨A, c, h, _⟩ := (htab f hf).1.1.form
      obtain ⟨A', c', h', _⟩ := (htab f hf).2.1.form
      rw [h, h']; exact ⟨rfl, rfl⟩
    rw [Array.all_eq_true_iff_forall_mem]
    intro v hv
    simp only [tabArr, List.mem_toArray, List.mem_flatMap, List.mem_range] at hv
    obtain ⟨f, hf, hv⟩ := hv
    simp only [List.mem_cons, List.not_mem_nil, or_false] at hv
    rcases hv with rfl | rfl | rfl
    · rfl
    · exact (hR f hf).1
    · exact (hR f hf).2
  refine hK _ _ ?_
  clear hK
  refine wpList_val rfl (.pointer (some ⟨w1.heap.size, 0, none⟩)) (w1.alloc (.cells ZZ 102)) (by kernel_rfl) ?_
  refine wpList_skip rfl (w1.alloc (.cells (tabArr R E) 102)) (run_store_of rfl (by kernel_rfl) (by kernel_rfl) (run_storeAt_new w1 102 ZZ (tabArr R E) (by rw [tabArr_size]; kernel_rfl) rfl hall)) ?_
  refine wpList_nil ?_
  have hbT := Blk.new w1 102 (tabArr R E)
  have hg1 := hg0.alloc (.cells (tabArr R E) 102)
  have hb2 : Below (w.heap.size) w (w1.alloc (.cells (tabArr R E) 102)) := (((Below.refl _ _).alloc (Nat.le_refl _) _).trans (hb1.mono (by simp))).alloc (by omega) _
  have HFORM : Hid (∀ f, f < 18 → (∃ A n c, R f = .slice A n c) ∧ ∃ A n c, E f = .slice A n c) := fun f hf => by
    obtain ⟨A, c, h, _⟩ := (htab f hf).1.1.form
    obtain ⟨A', c', h', _⟩ := (htab f hf).2.1.form
    exact ⟨⟨A, _, c, h⟩, A', _, c', h'⟩
  have HK2 : Hid (∀ f, f < 18 → ∀ s : Value, KindIs (((( w1.alloc (.cells (tabArr R E) 102)).setCell ⟨w.heap.size, 0, none⟩ s).setCell ⟨w.heap.size, 1, none⟩ (R f)).setCell ⟨w.heap.size, 2, none⟩ (E f)) f (R f) (E f)) := by
    intro f hf s
    have hbb : Below w1.heap.size w1 (w1.alloc (.cells (tabArr R E) 102)) := (Below.refl _ _).alloc (Nat.le_refl _) _
    have hon := only_set (only_set (only_set (only_refl (w1.alloc (.cells (tabArr R E) 102)) (some w.heap.size)) 0 s) 1 (R f)) 2 (E f)
    exact ⟨(SlN.only_from ((htab f hf).1.1.below hbb) (htab f hf).1.2 hon (by simp) (by simp)).more (Nat.le_trans hbb.size hon.size), (SlN.only_from ((htab f hf).2.1.below hbb) (htab f hf).2.2 hon (by simp) (by simp)).more (Nat.le_trans hbb.size hon.size)⟩
  generalize (w1.alloc (Obj.cells (tabArr R E) _)) = w2 at hbT hg1 hb2 HK2 ⊢
  generalize w1.heap.size = bT at hbT hw1 ⊢
  have HG := Lib.hid hg1
  have HB2 := Lib.hid hb2
  have HBT := Lib.hid hbT
  have gc0 := hg1.cell 0
  have gc1 := hg1.cell 1
  have gc2 := hg1.cell 2
  have gf0 := hg1.frozen 0
  have gf1 := hg1.frozen 1
  have gf2 := hg1.frozen 2
  simp at gc0 gc1 gc2
  clear hall hg0 hg1 hb2 hbT htab hb1
  have HF : Hid (∀ s r e : Value, Blk (((w2.setCell ⟨w.heap.size, 0, none⟩ s).setCell ⟨w.heap.size, 1, none⟩ r).setCell ⟨w.heap.size, 2, none⟩ e) w.heap.size 97 #[s, r, e] ∧ Below w.heap.size w (((w2.setCell ⟨w.heap.size, 0, none⟩ s).setCell ⟨w.heap.size, 1, none⟩ r).setCell ⟨w.heap.size, 2, none⟩ e)) := by
    intro s r e
    refine ⟨by simpa using ((HG.out.set_ 0 s).set_ 1 r).set_ 2 e, below_of_only HB2.out (only_set (only_set (only_set (only_refl w2 (some w.heap.size)) 0 s) 1 r) 2 e) HB2.out.size (Nat.le_refl _)⟩
  rcases hca with h1 | ⟨h1, h2⟩ | ⟨f, rfl, h1⟩
  · have hd : decide (face < 0) = true := by simpa using h1
    have e0 := hout.out face (.inl h1)
    have HE0 := Lib.hid e0
    clear e0 h1
    go_wp2
    have hfin := HF.out (.string ⟨#[]⟩) (.slice none 0 0) (.slice none 0 0)
    refine bodyPost_ret (results_cell_row rfl _ _ w.heap.size _ _ (0, 0) _ rfl hfin.1 Tryd.underlying97 rfl (by kernel_rfl)) rfl ?_
    rw [HE0.out]
    exact ⟨_, _, rfl, kind_zero _, hfin.2⟩
  · have hd : decide (18 ≤ face) = true := by simpa using h2
    have e0 := hout.out face (.inr h2)
    have HE0 := Lib.hid e0
    clear e0
    go_wp2
    have hfin := HF.out (.string ⟨#[]⟩) (.slice none 0 0) (.slice none 0 0)
    refine bodyPost_ret (results_cell_row rfl _ _ w.heap.size _ _ (0, 0) _ rfl hfin.1 Tryd.underlying97 rfl (by kernel_rfl)) rfl ?_
    rw [HE0.out]
    exact ⟨_, _, rfl, kind_zero _, hfin.2⟩
  · have e0 := hin.out f h1
    have HE0 := Lib.hid e0
    obtain ⟨t0, t1, t2⟩ := tabArr_at R E f h1
    have c0 : w2.cell? ⟨bT, f * 3, none⟩ = some (.string (nameOf f)) := (HBT.out.cell _).trans t0
    have c1 : w2.cell? ⟨bT, f * 3 + 1, none⟩ = some (R f) := (HBT.out.cell _).trans t1
    have c2 : w2.cell? ⟨bT, f * 3 + 2, none⟩ = some (E f) := (HBT.out.cell _).trans t2
    obtain ⟨⟨ra, rn, rc, hr⟩, ea, en, ec, he⟩ := HFORM.out f h1
    have HK3 := Lib.hid (HK2.out f h1)
    rw [hr, he] at HK3
    rw [hr] at c1
    rw [he] at c2
    clear e0 t0 t1 t2 hr he
    go_wp2
    have hfin := HF.out (.string (nameOf f)) (.slice ra rn rc) (.slice ea en ec)
    refine bodyPost_ret (results_cell_row rfl _ _ w.heap.size _ _ (0, 0) _ rfl hfin.1 Tryd.underlying97 rfl (by kernel_rfl)) rfl ?_
    rw [HE0.out]
    exact ⟨_, _, rfl, HK3.out _, hfin.2⟩
end Go.Proofs.YtagjmkgbfbaekaaDoor
