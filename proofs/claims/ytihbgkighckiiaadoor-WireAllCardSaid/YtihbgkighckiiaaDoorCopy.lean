/- What one operation on bytes does: make, copy. No condition. -/
import Derived.Test.YtihbgkighckiiaaDoorWord
import Derived.Laws.CopyOwn
namespace Go.Proofs.YtihbgkighckiiaaDoor
open Go.RowKit
set_option maxRecDepth 100000

/-- New bytes, all 0. -/
theorem run_make_bytes (w : World) (n : Nat) (h : n ≤ 65536) : (Instr.makeSlice 30 (.int .i64 (n : Int)) (.int .i64 (n : Int))).run Tryd.prog w = .ok (.slice (some ⟨w.heap.size, 0, none⟩) n n) (w.alloc (.cells (bv (List.replicate n 0)).toArray 5)) := by
  obtain ⟨i, hi, hz, hs1, hby⟩ := info_parts Tryd.infoU8
  have := run_make (P := Tryd.prog) w 30 5 i (.int .u8 0) Tryd.underlying30 hi hz .i64 .i64 n n (by omega) (Int.le_refl _) (by rw [hby]; omega) (by omega)
  rw [this, hs1]
  have e : madeCells (Value.int .u8 0).cells ((n : Int).toNat * 1) = (bv (List.replicate n 0)).toArray := by
    apply Array.toList_inj.1
    rw [show (Value.int .u8 0).cells = #[.int .u8 0] from rfl, toList_madeCells_one]
    simp [bv]
  rw [e]; simp
/-- Bytes laid over bytes. -/
def over (bs : List UInt8) (at_ : Nat) (ys : List UInt8) : List UInt8 := bs.take at_ ++ (ys ++ bs.drop (at_ + ys.length))
theorem over_length (bs : List UInt8) (at_ : Nat) (ys : List UInt8) (h : at_ + ys.length ≤ bs.length) : (over bs at_ ys).length = bs.length := by simp [over]; omega
theorem over_bv (bs : List UInt8) (at_ : Nat) (ys : List UInt8) : splice (bv bs) at_ (bv ys) = bv (over bs at_ ys) := by simp [splice, over, bv]
/-- 'copy': as many as there are of both go over; what is written lies in block b from at_ on. -/
theorem run_copy_bytes (w : World) (ty : TypeId) (A : Option Addr) (dl dc : Nat) (b at_ : Nat) (bs ys : List UInt8) (src : Value) (hb : Blk w b 5 (bv bs).toArray) (hs : Sl w w.heap.size src (bv ys))
    (hA : 0 < min ys.length dl → A = some ⟨b, at_, none⟩) (hfit : at_ + min ys.length dl ≤ bs.length) :
    ∃ w', (Builtin.copy_ #[30, 30] ty #[.slice A dl dc, src]).run Tryd.prog w = .ok (.int .i64 (min ys.length dl : Nat)) w' ∧ Blk w' b 5 (bv (over bs at_ (ys.take dl))).toArray ∧ w.grownBy w' (some b) ∧ w'.heap.size = w.heap.size ∧ w'.drawn = w.drawn := by
  obtain ⟨_, SA, sc, rfl, hsc, hsm, _, hsx⟩ := hs
  obtain ⟨i, hi, hz, hs1, hby⟩ := info_parts Tryd.infoU8
  have hsz : (Tryd.prog.info? 5).map (·.size) = some 1 := by rw [hi]; simp [hs1]
  rw [bv_length]
  by_cases h0 : min ys.length dl = 0
  · refine ⟨w, ?_, ?_, only_refl _ _, rfl, rfl⟩
    · rw [run_copy_none (P := Tryd.prog) w _ _ ty 5 A SA dl dc ys.length sc Tryd.underlying30 hsz h0, h0]; rfl
    · have : ys.take dl = [] := by
        apply List.eq_nil_of_length_eq_zero
        rw [List.length_take, Nat.min_comm]; exact h0
      rw [this]
      simpa [over] using hb
  · have p := Nat.pos_of_ne_zero h0
    have hA' := hA p
    subst hA'
    obtain ⟨sb, so, rfl, hsb, hx⟩ := hsx (by rw [bv_length]; exact Nat.lt_of_lt_of_le p (Nat.min_le_left _ _))
    have hl : (bv (ys.take dl)).length = min ys.length dl := by rw [bv_length, List.length_take, Nat.min_comm]
    have hrun := run_copy_row (P := Tryd.prog) w 30 30 ty 5 b at_ dl dc ⟨sb, so, none⟩ ys.length sc (bv bs).toArray 5 (bv (ys.take dl)) Tryd.underlying30 hsz hb hl (fun j v hj => by
      have : (bv ys)[j]? = some v := by
        have h1 := (List.getElem?_eq_some_iff.1 hj).1
        rw [bv_take] at hj
        rw [List.getElem?_take_of_lt (by rw [hl] at h1; exact Nat.lt_of_lt_of_le h1 (Nat.min_le_right _ _))] at hj
        exact hj
      have := hx j v this
      rw [show (⟨sb, so, none⟩ : Addr).add j = ⟨sb, so + j, none⟩ from by unfold Addr.add; split <;> simp_all]
      exact this) (by rw [hl]; simp [bv_length]; exact hfit) (bv_one _)
    have e : (bv bs).toArray.toList.take at_ ++ bv (ys.take dl) ++ (bv bs).toArray.toList.drop (at_ + (bv (ys.take dl)).length) = bv (over bs at_ (ys.take dl)) := by
      rw [← over_bv]; simp [splice]
    rw [e, hl] at hrun
    exact ⟨_, hrun, setRow_heap w b (bv bs).toArray _ 5 (0, 0) hb, ⟨rfl, rfl, rfl, by simp [World.setRow], fun k _ hk => setRow_other w b k _ (fun e => hk (by rw [e]))⟩, by simp [World.setRow], rfl⟩
end Go.Proofs.YtihbgkighckiiaaDoor
