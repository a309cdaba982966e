/- The calls of package memory: Read, Word. No condition. -/
import Derived.Test.YtagjmkgbfbaekaaDoorMemG
namespace Go.Proofs.YtagjmkgbfbaekaaDoor
open Go.RowKit
set_option maxRecDepth 100000

/-- Whether bytes may be read. -/
def readOk (L : List Ent) (k a n : Int) : Bool := match has L k with | none => false | some bs => decide (0 ≤ n ∧ 0 ≤ a ∧ a ≤ (bs.length : Int) - n)
set_option maxHeartbeats 800000 in
theorem mread_no (B g m : Nat) (L : List Ent) (k a n : Int) (w : World) (h : MemIs w B g m L) (hS : Small L) (hn63 : -9223372036854775808 ≤ n ∧ n ≤ 9223372036854775807) (hno : readOk L k a n = false) :
    Calls Tryd.prog 22 #[.pointer (some ⟨g, 0, none⟩), .int .i64 k, .int .i64 a, .int .i64 n] w fun e w' => e = .returned (.tuple #[.slice none 0 0, .bool false]) ∧ w = w' := by
  have hlk := run_lookup_ok h k
  have gc0 := h.box.cell 0
  simp at gc0
  cases hl : look L k with
  | none =>
    rw [hl] at hlk
    simp [lookV] at hlk
    clear hl hno hS h
    go_enter Tryd.func22, Tryd.ntmps22
    go_wp2
    go_ret2
    exact ⟨rfl, rfl⟩
  | some r =>
    obtain ⟨j, b, bs⟩ := r
    rw [hl] at hlk
    simp [lookV] at hlk
    have hbl : bs.length ≤ 65536 := hS _ (look_mem L k j b bs hl).1
    obtain ⟨c, hc⟩ : ∃ n, n = bs.length := ⟨_, rfl⟩
    have hno' : ¬ (0 ≤ n ∧ 0 ≤ a ∧ a ≤ (c : Int) - n) := by simpa [readOk, has, hl, ← hc] using hno
    rw [← hc] at hlk hbl
    clear hl hno hS h hc
    have hca : n < 0 ∨ (0 ≤ n ∧ a < 0) ∨ (0 ≤ n ∧ 0 ≤ a ∧ (c : Int) - n < a) := by omega
    clear hno'
    obtain ⟨hn1, hn2⟩ := hn63
    rcases hca with h | ⟨h, h'⟩ | ⟨h, h', h''⟩
    · have d : decide (n < 0) = true := by simpa using h
      go_enter Tryd.func22, Tryd.ntmps22
      go_wp2
      go_ret2
      exact ⟨rfl, rfl⟩
    · have d : decide (n < 0) = false := by simpa using h
      have d' : decide (a < 0) = true := by simpa using h'
      go_enter Tryd.func22, Tryd.ntmps22
      go_wp2
      go_ret2
      exact ⟨rfl, rfl⟩
    · have d : decide (n < 0) = false := by simpa using h
      have d' : decide (a < 0) = false := by simpa using h'
      have d'' : decide ((c : Int) - n < a) = true := by simpa using h''
      go_enter Tryd.func22, Tryd.ntmps22
      go_wp2
      go_ret2
      exact ⟨rfl, rfl⟩
/-- Bytes of a memory. -/
def readB (bs : List UInt8) (a n : Nat) : List UInt8 := (bs.drop a).take n
set_option maxHeartbeats 1600000 in
theorem mread_ok (B g m : Nat) (L : List Ent) (k : Int) (a n : Nat) (w : World) (h : MemIs w B g m L) (hS : Small L) {j b : Nat} {bs : List UInt8} (hl : look L k = some (j, b, bs)) (ha : a + n ≤ bs.length) :
    Calls Tryd.prog 22 #[.pointer (some ⟨g, 0, none⟩), .int .i64 k, .int .i64 (a : Int), .int .i64 (n : Int)] w fun e w' =>
      e = .returned (.tuple #[.slice (some ⟨w.heap.size, 0, none⟩) n n, .bool true]) ∧ Blk w' w.heap.size 5 (bv (readB bs a n)).toArray ∧ Below w.heap.size w w' := by
  have hlk := run_lookup_ok h k
  have gc0 := h.box.cell 0
  simp at gc0
  rw [hl] at hlk
  simp [lookV] at hlk
  have hbl : bs.length ≤ 65536 := hS _ (look_mem L k j b bs hl).1
  have hmk := run_make_bytes w n (by omega)
  have hb1 : Below w.heap.size w (w.alloc (.cells (bv (List.replicate n 0)).toArray 5)) := (Below.refl _ _).alloc (Nat.le_refl _) _
  have hbb := h.row _ (look_mem L k j b bs hl).1
  have hbb1 := hbb.below hb1 hbb.lt
  have key : ∀ (A : Option Addr) (sl : Nat), sl = bs.length - a → (0 < sl → A = some ⟨b, a, none⟩) → ∃ w', (Builtin.copy_ #[31, 31] 3 #[.slice (some ⟨w.heap.size, 0, none⟩) n n, .slice A sl sl]).run Tryd.prog (w.alloc (.cells (bv (List.replicate n 0)).toArray 5)) = .ok (.int .i64 (n : Nat)) w' ∧ Hid (Blk w' w.heap.size 5 (bv (readB bs a n)).toArray ∧ Below w.heap.size w w') := by
    intro A sl hsl hA
    have hs : Sl (w.alloc (.cells (bv (List.replicate n 0)).toArray 5)) (w.alloc (.cells (bv (List.replicate n 0)).toArray 5)).heap.size (.slice (if 0 < sl then A else none) sl (if 0 < sl then sl else 0)) (bv (bs.drop a)) := by
      show SlN _ _ _ _ _ _
      rw [bv_length, List.length_drop, ← hsl]
      by_cases hp : 0 < sl
      · rw [if_pos hp, if_pos hp, hA hp]
        refine ⟨by simp [bv_length, hsl], _, _, rfl, Nat.le_refl _, by unfold maxLen; omega, (fun e => by cases e), fun _ => ⟨b, a, rfl, hbb1.lt, fun i u hu => ?_⟩⟩
        rw [hbb1.cell]
        rw [bv_drop, List.getElem?_drop] at hu
        simpa using hu
      · rw [if_neg hp, if_neg hp]
        refine ⟨by simp [bv_length, hsl], _, _, rfl, by omega, by unfold maxLen; omega, fun _ => rfl, fun h => absurd h hp⟩
    have hdl : (bs.drop a).length = sl := by rw [List.length_drop, hsl]
    have hmin : min (bs.drop a).length n = n := Nat.min_eq_right (by rw [hdl]; omega)
    obtain ⟨w', r1, r2, r3, _, _⟩ := run_copy_bytes _ 3 (some ⟨w.heap.size, 0, none⟩) n n w.heap.size 0 (List.replicate n 0) (bs.drop a) _ (Blk.new _ _ _) hs (fun _ => rfl) (by rw [hmin]; simp)
    rw [hmin] at r1
    have e : over (List.replicate n 0) 0 ((bs.drop a).take n) = readB bs a n := by
      have hl : ((bs.drop a).take n).length = n := by rw [List.length_take, List.length_drop]; omega
      simp [over, readB]; omega
    rw [e] at r2
    refine ⟨w', ?_, r2, below_of_only hb1 r3 (by simp) (Nat.le_refl _)⟩
    by_cases hp : 0 < sl
    · rw [if_pos hp, if_pos hp] at r1; exact r1
    · have hn0 : n = 0 := by omega
      have h0 : sl = 0 := by omega
      subst hn0 h0
      exact run_copy_none _ _ _ _ 5 _ A 0 0 0 0 Tryd.underlying31 (by obtain ⟨i, hi, hz, hs1, hby⟩ := info_parts Tryd.infoB8; rw [hi]; simp [hs1]) rfl |>.trans (by rw [← r1]; exact (run_copy_none _ _ _ _ 5 _ _ 0 0 0 0 Tryd.underlying31 (by obtain ⟨i, hi, hz, hs1, hby⟩ := info_parts Tryd.infoB8; rw [hi]; simp [hs1]) rfl).symm)
  obtain ⟨c, hc⟩ : ∃ n, n = bs.length := ⟨_, rfl⟩
  rw [← hc] at hlk hbl ha key
  generalize hW1 : (w.alloc (.cells (bv (List.replicate n 0)).toArray 5)) = w1 at hmk hb1 hbb1 key
  have hw1 : w1.cell? ⟨g, 0, none⟩ = some (.map (some m)) := (hb1.cell (p := ⟨g, 0, none⟩) h.box.lt).trans gc0
  have d : decide ((n : Int) < 0) = false := by simp
  have d' : decide ((a : Int) < 0) = false := by simp
  have d'' : decide ((c : Int) - (n : Int) < (a : Int)) = false := by simp; omega
  rcases Nat.lt_or_ge a c with h0 | h0
  · obtain ⟨w', hcp, HF⟩ := key (some ⟨b, a, none⟩) (c - a) rfl (fun _ => rfl)
    clear key hl h hS hc hbb hbb1 hb1 hW1
    go_enter Tryd.func22, Tryd.ntmps22
    go_wp2
    go_ret2
    exact ⟨rfl, HF.out⟩
  · obtain rfl : a = c := by omega
    obtain rfl : n = 0 := by omega
    obtain ⟨w', hcp, HF⟩ := key (some ⟨b, 0, none⟩) 0 (by omega) (fun h => absurd h (Nat.lt_irrefl _))
    clear key hl h hS hc hbb hbb1 hb1 hW1 ha d d''
    have e0 : ((0 : Nat) : Int) = 0 := rfl
    simp only [e0] at hmk hcp ⊢
    clear e0
    have d : decide ((0 : Int) < 0) = false := by decide
    have d2 : decide ((a : Int) - 0 < (a : Int)) = false := by simp
    go_enter Tryd.func22, Tryd.ntmps22
    go_wp2
    go_ret2
    exact ⟨rfl, HF.out⟩
end Go.Proofs.YtagjmkgbfbaekaaDoor
