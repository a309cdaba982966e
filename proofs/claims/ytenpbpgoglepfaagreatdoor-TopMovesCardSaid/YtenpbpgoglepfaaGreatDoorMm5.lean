/- The errors of package api, as the rows list them: each variable holds a pointer of its own to its text. What the laid list gives ('errs_of_list'); that it stays. No condition. -/
import Derived.Test.YtenpbpgoglepfaaGreatDoorMm1
import Derived.Test.YtenpbpgoglepfaaGreatDoorRows
import Derived.ProofKit
import Derived.LaidLaws
import Derived.LaidMore
import Derived.MakeChecks
namespace Go.Proofs.YtenpbpgoglepfaaGreatDoor
open Go.RowKit Go.ChangeShapes

/-- An error's variable, its name, its text, by its number. -/
def gno : Nat → Nat
  | 1 => 1
  | 2 => 3
  | 3 => 5
  | 4 => 7
  | 5 => 4
  | 6 => 6
  | 7 => 8
  | 8 => 9
  | 9 => 10
  | 10 => 11
  | 11 => 12
  | 12 => 13
  | 13 => 14
  | 14 => 2
  | 15 => 0
  | 16 => 16
  | _ => 0
def gname : Nat → String
  | 1 => "tableau/api.ErrArg"
  | 2 => "tableau/api.ErrShort"
  | 3 => "tableau/api.ErrBytes"
  | 4 => "tableau/api.ErrBig"
  | 5 => "tableau/api.ErrObject"
  | 6 => "tableau/api.ErrMethod"
  | 7 => "tableau/api.ErrFormat"
  | 8 => "tableau/api.ErrStride"
  | 9 => "tableau/api.ErrFile"
  | 10 => "tableau/api.ErrRole"
  | 11 => "tableau/api.ErrPlace"
  | 12 => "tableau/api.ErrState"
  | 13 => "tableau/api.ErrSerial"
  | 14 => "tableau/api.ErrFull"
  | 15 => "tableau/api.ErrGone"
  | 16 => "tableau/api.ErrSheet"
  | _ => ""
def gtext : Nat → List UInt8
  | 1 => [97, 114, 103, 117, 109, 101, 110, 116]
  | 2 => [115, 104, 111, 114, 116]
  | 3 => [98, 121, 116, 101, 115]
  | 4 => [98, 105, 103]
  | 5 => [111, 98, 106, 101, 99, 116]
  | 6 => [109, 101, 116, 104, 111, 100]
  | 7 => [102, 111, 114, 109, 97, 116]
  | 8 => [115, 116, 114, 105, 100, 101]
  | 9 => [102, 105, 108, 101]
  | 10 => [114, 111, 108, 101]
  | 11 => [112, 108, 97, 99, 101]
  | 12 => [115, 116, 97, 116, 101]
  | 13 => [115, 101, 114, 105, 97, 108]
  | 14 => [102, 117, 108, 108]
  | 15 => [103, 111, 110, 101]
  | 16 => [115, 104, 101, 101, 116]
  | _ => []
def mkLaid (k : Nat) : String × DataW Unit := (gname k, .iface "*errors.errorString" (.ptr (.agg [.lit (.string (gtext k))])))

/-- An error's value, by its number; 0: nil. -/
def errV (A : Nat → Addr) (k : Nat) : Value := if k = 0 then .nilIface else .iface 465 (.pointer (some (A k)))
theorem errV_zero (A : Nat → Addr) : errV A 0 = .nilIface := rfl
theorem errV_pos (A : Nat → Addr) {k : Nat} (h : 0 < k) : errV A k = .iface 465 (.pointer (some (A k))) := by unfold errV; rw [if_neg (by omega)]

/-- The errors of these numbers stand in w, below block B. -/
def Errs (w : World) (B : Nat) (S : List Nat) (A : Nat → Addr) : Prop :=
  (∀ k ∈ S, w.cell? ⟨gno k, 0, none⟩ = some (.iface 465 (.pointer (some (A k)))) ∧ gno k < B ∧ (A k).block < B ∧ (A k).spot = none ∧ (∃ c t, w.heap[(A k).block]? = some (.cells c t (0, 0))) ∧
    w.cell? (A k) = some (.string ⟨(gtext k).toArray⟩)) ∧ ∀ j ∈ S, ∀ k ∈ S, A j = A k → j = k

section
variable {w w' : World} {B B' : Nat} {S : List Nat} {A : Nat → Addr}
theorem Errs.below (h : Errs w B S A) (hb : Below B w w') : Errs w' B S A := by
  refine ⟨fun k hk => ?_, h.2⟩
  obtain ⟨h1, h2, h3, h4, ⟨c, t, h5⟩, h6⟩ := h.1 k hk
  exact ⟨(hb.cell (p := ⟨gno k, 0, none⟩) h2).trans h1, h2, h3, h4, ⟨c, t, (hb.block _ h3).trans h5⟩, (hb.cell h3).trans h6⟩
theorem Errs.more (h : Errs w B S A) (hB : B ≤ B') : Errs w B' S A := by
  refine ⟨fun k hk => ?_, h.2⟩
  obtain ⟨h1, h2, h3, h4, h5, h6⟩ := h.1 k hk
  exact ⟨h1, by omega, by omega, h4, h5, h6⟩
theorem Errs.to (h : Errs w B S A) (hb : Below B w w') (hB : B ≤ B') : Errs w' B' S A := (h.below hb).more hB
/-- What a walk is told of a variable. -/
theorem Errs.var (h : Errs w B S A) {k : Nat} (hk : k ∈ S) : w.cell? ⟨gno k, 0, none⟩ = some (.iface 465 (.pointer (some (A k)))) := (h.1 k hk).1
end

theorem Tryz.star : "*errors.errorString" = "*" ++ "errors.errorString" := by decide
theorem Tryz.rowErr (u : TypeId) (h : Tryz.prog.typeName? 3 u = some "*errors.errorString") : u = 465 :=
  typeName_ptr_named (nm := "errors.errorString") (by rw [← Tryz.star]; kernel_rfl) (by kernel_rfl) (by decide) u (by rw [← Tryz.star]; exact h)
theorem Tryz.cellsES : Tryz.prog.cellsOf 484 = 1 := by kernel_rfl
theorem Tryz.cellsSt : Tryz.prog.cellsOf 9 = 1 := by kernel_rfl
theorem gn1 : Tryz.prog.globalNamed (gname 1) = some (gno 1) ∧ (Tryz.prog.globals[gno 1]?).map (·.type) = some 26 := by refine ⟨?_, ?_⟩ <;> kernel_rfl
theorem gn2 : Tryz.prog.globalNamed (gname 2) = some (gno 2) ∧ (Tryz.prog.globals[gno 2]?).map (·.type) = some 26 := by refine ⟨?_, ?_⟩ <;> kernel_rfl
theorem gn3 : Tryz.prog.globalNamed (gname 3) = some (gno 3) ∧ (Tryz.prog.globals[gno 3]?).map (·.type) = some 26 := by refine ⟨?_, ?_⟩ <;> kernel_rfl
theorem gn4 : Tryz.prog.globalNamed (gname 4) = some (gno 4) ∧ (Tryz.prog.globals[gno 4]?).map (·.type) = some 26 := by refine ⟨?_, ?_⟩ <;> kernel_rfl
theorem gn5 : Tryz.prog.globalNamed (gname 5) = some (gno 5) ∧ (Tryz.prog.globals[gno 5]?).map (·.type) = some 26 := by refine ⟨?_, ?_⟩ <;> kernel_rfl
theorem gn6 : Tryz.prog.globalNamed (gname 6) = some (gno 6) ∧ (Tryz.prog.globals[gno 6]?).map (·.type) = some 26 := by refine ⟨?_, ?_⟩ <;> kernel_rfl
theorem gn7 : Tryz.prog.globalNamed (gname 7) = some (gno 7) ∧ (Tryz.prog.globals[gno 7]?).map (·.type) = some 26 := by refine ⟨?_, ?_⟩ <;> kernel_rfl
theorem gn8 : Tryz.prog.globalNamed (gname 8) = some (gno 8) ∧ (Tryz.prog.globals[gno 8]?).map (·.type) = some 26 := by refine ⟨?_, ?_⟩ <;> kernel_rfl
theorem gn9 : Tryz.prog.globalNamed (gname 9) = some (gno 9) ∧ (Tryz.prog.globals[gno 9]?).map (·.type) = some 26 := by refine ⟨?_, ?_⟩ <;> kernel_rfl
theorem gn10 : Tryz.prog.globalNamed (gname 10) = some (gno 10) ∧ (Tryz.prog.globals[gno 10]?).map (·.type) = some 26 := by refine ⟨?_, ?_⟩ <;> kernel_rfl
theorem gn11 : Tryz.prog.globalNamed (gname 11) = some (gno 11) ∧ (Tryz.prog.globals[gno 11]?).map (·.type) = some 26 := by refine ⟨?_, ?_⟩ <;> kernel_rfl
theorem gn12 : Tryz.prog.globalNamed (gname 12) = some (gno 12) ∧ (Tryz.prog.globals[gno 12]?).map (·.type) = some 26 := by refine ⟨?_, ?_⟩ <;> kernel_rfl
theorem gn13 : Tryz.prog.globalNamed (gname 13) = some (gno 13) ∧ (Tryz.prog.globals[gno 13]?).map (·.type) = some 26 := by refine ⟨?_, ?_⟩ <;> kernel_rfl
theorem gn14 : Tryz.prog.globalNamed (gname 14) = some (gno 14) ∧ (Tryz.prog.globals[gno 14]?).map (·.type) = some 26 := by refine ⟨?_, ?_⟩ <;> kernel_rfl
theorem gn15 : Tryz.prog.globalNamed (gname 15) = some (gno 15) ∧ (Tryz.prog.globals[gno 15]?).map (·.type) = some 26 := by refine ⟨?_, ?_⟩ <;> kernel_rfl
theorem gn16 : Tryz.prog.globalNamed (gname 16) = some (gno 16) ∧ (Tryz.prog.globals[gno 16]?).map (·.type) = some 26 := by refine ⟨?_, ?_⟩ <;> kernel_rfl

set_option maxRecDepth 100000 in
/-- One after the other: where each listed error lies. -/
theorem laid_each {W : World} : ∀ (S : List Nat) (ps : List MemPlace), (∀ k ∈ S, Tryz.prog.globalNamed (gname k) = some (gno k) ∧ (Tryz.prog.globals[gno k]?).map (·.type) = some 26) → DataW.LaidVars Tryz.prog W (S.map mkLaid) ps →
    (∀ b off, MemPlace.cell b off ∈ ps → (∃ c t, W.heap[b]? = some (.cells c t (0, 0))) ∧ ∀ u v, W.cell? ⟨b, off, none⟩ = some (.iface u v) → Value.okWide Tryz.prog W .any 0 u v) →
    ∃ As : List Addr, As.length = S.length ∧ (As.map fun a => MemPlace.cell a.block a.off).Sublist ps ∧
      ∀ (i k : Nat) (a : Addr), S[i]? = some k → As[i]? = some a → W.cell? ⟨gno k, 0, none⟩ = some (.iface 465 (.pointer (some a))) ∧ a.spot = none ∧ W.cell? a = some (.string ⟨(gtext k).toArray⟩)
  | [], ps, _, h, _ => ⟨[], rfl, by simp, by simp⟩
  | k :: S, ps, hS, h, hrows => by
    obtain ⟨g0, t0, cs0, f0, p0, q0, hg0, ht0, hv0, hd0, hq, e0⟩ := h
    subst e0
    obtain ⟨hg, ht⟩ := hS k (by simp)
    obtain rfl := Option.some.inj (hg.symm.trans hg0)
    obtain rfl := Option.some.inj (ht.symm.trans ht0)
    obtain ⟨l0⟩ := cs0
    have hcell : ∀ x, l0 = [x] → W.cell? ⟨gno k, 0, none⟩ = some x := fun x e => by subst e; simpa using World.var?_cell hg hv0 0
    have ok0 : ∀ u v, l0 = [.iface u v] → Value.okWide Tryz.prog W .any 0 u v := fun u v e => by
      have := hcell _ e
      subst e
      exact (hrows (gno k) 0 (by simp [MemPlace.row])).2 u v this
    obtain ⟨a0, s0, e1, hc0, hs0, hz0, e2⟩ := errorString_of_trod Tryz.underlying26 Tryz.rowErr Tryz.underlying465 Tryz.underlying484 rfl rfl Tryz.underlying9 Tryz.cellsES Tryz.cellsSt hd0 ok0
    subst e2
    obtain ⟨As, hl, hsub, hAs⟩ := laid_each S q0 (fun j hj => hS j (List.mem_cons_of_mem _ hj)) hq (fun b off hm => hrows b off (by simp [hm]))
    refine ⟨a0 :: As, by simp [hl], ?_, ?_⟩
    · have e1' : l0.toArray.size = 1 := by simp at e1; rw [e1]; rfl
      have : (MemPlace.row ⟨gno k, 0, none⟩ l0.toArray.size ++ MemPlace.row a0 1 ++ q0) = .cell (gno k) 0 :: .cell a0.block a0.off :: q0 := by rw [e1']; simp [MemPlace.row]
      rw [this]
      exact .cons _ (.cons_cons _ hsub)
    · intro i j a hi ha
      rcases i with _ | i
      · simp only [List.getElem?_cons_zero, Option.some.injEq] at hi ha
        subst hi; subst ha
        refine ⟨hcell _ (by simpa using e1), World.cell?_spot hc0, ?_⟩
        rw [hc0, ← hs0]
      · simp only [List.getElem?_cons_succ] at hi ha
        exact hAs i j a hi ha

theorem errs_of_list {W : World} (S : List Nat) (hS : ∀ k ∈ S, Tryz.prog.globalNamed (gname k) = some (gno k) ∧ (Tryz.prog.globals[gno k]?).map (·.type) = some 26) (h : laidMet Tryz.prog (S.map mkLaid) W) :
    ∃ A, Errs W W.heap.size S A := by
  obtain ⟨ps, hv, hn, hrows⟩ := h
  obtain ⟨As, hl, hsub, hAs⟩ := laid_each S ps hS hv hrows
  have hnd2 := hn.sublist hsub
  have hix : ∀ k ∈ S, S[S.idxOf k]? = some k := fun k hk => by
    rw [List.getElem?_eq_getElem (List.idxOf_lt_length_iff.2 hk)]
    simp
  have hia : ∀ k ∈ S, As[S.idxOf k]? = some (As.getD (S.idxOf k) default) := fun k hk => by
    have : S.idxOf k < As.length := by rw [hl]; exact List.idxOf_lt_length_iff.2 hk
    rw [List.getD_eq_getElem?_getD, List.getElem?_eq_getElem this]; rfl
  refine ⟨fun k => As.getD (S.idxOf k) default, fun k hk => ?_, fun j hj k hk e => ?_⟩
  · obtain ⟨h1, h2, h3⟩ := hAs _ k _ (hix k hk) (hia k hk)
    have hm : MemPlace.cell (As.getD (S.idxOf k) default).block (As.getD (S.idxOf k) default).off ∈ ps :=
      hsub.subset (List.mem_map.2 ⟨_, List.mem_of_getElem? (hia k hk), rfl⟩)
    exact ⟨h1, World.block_lt_of_cell? _ _ h1, World.block_lt_of_cell? _ _ h3, h2, (hrows _ _ hm).1, h3⟩
  · have hj1 : S.idxOf j < As.length := by rw [hl]; exact List.idxOf_lt_length_iff.2 hj
    have hk1 : S.idxOf k < As.length := by rw [hl]; exact List.idxOf_lt_length_iff.2 hk
    have hid : S.idxOf j = S.idxOf k := by
      refine (List.getElem_inj (xs := As.map fun a => MemPlace.cell a.block a.off) (h₀ := by simpa using hj1) (h₁ := by simpa using hk1) hnd2).1 ?_
      have ea := hia j hj
      have eb := hia k hk
      rw [List.getElem?_eq_getElem hj1] at ea
      rw [List.getElem?_eq_getElem hk1] at eb
      have e' : As.getD (S.idxOf j) default = As.getD (S.idxOf k) default := e
      simp only [List.getElem_map]
      rw [Option.some.inj ea, Option.some.inj eb, e']
    have h1 := hix j hj
    have h2 := hix k hk
    rw [hid, h2] at h1
    exact (Option.some.inj h1).symm
end Go.Proofs.YtenpbpgoglepfaaGreatDoor
