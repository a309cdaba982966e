/- The calls of package memory: what is refused, Size, Write, Read, Word. No condition but that the errors stand in memory. -/
import Derived.Test.YtagjmkgbfbaekaaDoorMemF
namespace Go.Proofs.YtagjmkgbfbaekaaDoor
open Go.RowKit
set_option maxRecDepth 100000

set_option maxHeartbeats 800000 in
theorem mset_bad (A : Nat → Addr) (S : List Nat) (h1 : 1 ∈ S) (k n : Int) (p : Value) (w : World) (hE : Errs w w.heap.size S A) (hbad : ¬ (1 ≤ k ∧ k ≤ 255 ∧ 0 ≤ n ∧ n ≤ 65536)) :
    Calls Tryd.prog 15 #[p, .int .i64 k, .int .i64 n] w fun e w' => e = .returned (errV A 1) ∧ w = w' := by
  have c1 : w.cell? ⟨0, 0, none⟩ = some (.iface 120 (.pointer (some (A 1)))) := hE.var h1
  have hlt : 0 < w.heap.size := World.block_lt_of_cell? _ _ c1
  have hca : k < 1 ∨ (1 ≤ k ∧ 255 < k) ∨ (1 ≤ k ∧ k ≤ 255 ∧ n < 0) ∨ (1 ≤ k ∧ k ≤ 255 ∧ 0 ≤ n ∧ 65536 < n) := by omega
  clear hE hbad
  rcases hca with h | ⟨h, h'⟩ | ⟨h, h', h''⟩ | ⟨h, h', h'', h'''⟩
  · have d : decide (k < 1) = true := by simpa using h
    go_enter Tryd.func15, Tryd.ntmps15
    go_wp2
    go_ret
    exact ⟨rfl, rfl⟩
  · have d : decide (k < 1) = false := by simpa using h
    have d' : decide (255 < k) = true := by simpa using h'
    go_enter Tryd.func15, Tryd.ntmps15
    go_wp2
    go_ret
    exact ⟨rfl, rfl⟩
  · have d : decide (k < 1) = false := by simpa using h
    have d' : decide (255 < k) = false := by simpa using h'
    have d'' : decide (n < 0) = true := by simpa using h''
    go_enter Tryd.func15, Tryd.ntmps15
    go_wp2
    go_ret
    exact ⟨rfl, rfl⟩
  · have d : decide (k < 1) = false := by simpa using h
    have d' : decide (255 < k) = false := by simpa using h'
    have d'' : decide (n < 0) = false := by simpa using h''
    have d3 : decide (65536 < n) = true := by simpa using h'''
    go_enter Tryd.func15, Tryd.ntmps15
    go_wp2
    go_ret
    exact ⟨rfl, rfl⟩

/-- How many bytes a memory has. -/
def sizeM (L : List Ent) (k : Int) : Int := match has L k with | none => -1 | some bs => bs.length
set_option maxHeartbeats 800000 in
theorem msize_any (B g m : Nat) (L : List Ent) (k : Int) (w : World) (h : MemIs w B g m L) : Calls Tryd.prog 18 #[.pointer (some ⟨g, 0, none⟩), .int .i64 k] w fun e w' => e = .returned (.int .i64 (sizeM L k)) ∧ w = w' := by
  have hlk := run_lookup_ok h k
  have gc0 := h.box.cell 0
  simp at gc0
  cases hl : look L k with
  | none =>
    have hfin : Hid (sizeM L k = -1) := by show _ = _; simp [sizeM, has, hl]
    rw [hl] at hlk
    simp [lookV] at hlk
    clear hl
    go_enter Tryd.func18, Tryd.ntmps18
    go_wp2
    go_ret
    rw [hfin.out]
    exact ⟨rfl, rfl⟩
  | some r =>
    obtain ⟨j, b, bs⟩ := r
    have hfin : Hid (sizeM L k = bs.length) := by show _ = _; simp [sizeM, has, hl]
    rw [hl] at hlk
    simp [lookV] at hlk
    clear hl
    go_enter Tryd.func18, Tryd.ntmps18
    go_wp2
    go_ret
    rw [hfin.out]
    exact ⟨rfl, rfl⟩

set_option maxHeartbeats 800000 in
theorem mwrite_none (A : Nat → Addr) (S : List Nat) (h9 : 9 ∈ S) (B g m : Nat) (L : List Ent) (k at_ : Int) (v : Value) (w : World) (h : MemIs w B g m L) (hE : Errs w w.heap.size S A) (hl : look L k = none) :
    Calls Tryd.prog 16 #[.pointer (some ⟨g, 0, none⟩), .int .i64 k, .int .i64 at_, v] w fun e w' => e = .returned (errV A 9) ∧ w = w' := by
  have c1 : w.cell? ⟨1, 0, none⟩ = some (.iface 120 (.pointer (some (A 9)))) := hE.var h9
  have hlt : 1 < w.heap.size := World.block_lt_of_cell? _ _ c1
  have hlk := run_lookup_ok h k
  have gc0 := h.box.cell 0
  simp at gc0
  rw [hl] at hlk
  simp [lookV] at hlk
  clear hl hE h
  go_enter Tryd.func16, Tryd.ntmps16
  go_wp2
  go_ret
  exact ⟨rfl, rfl⟩
set_option maxHeartbeats 800000 in
theorem mwrite_far (A : Nat → Addr) (S : List Nat) (h8 : 8 ∈ S) (B g m : Nat) (L : List Ent) (k at_ : Int) (v : Value) (ys : List UInt8) (w : World) (h : MemIs w B g m L) (hS : Small L) (hE : Errs w w.heap.size S A) (hv : Sl w w.heap.size v (bv ys)) (hy : ys.length ≤ 140737488351232) {j b : Nat} {bs : List UInt8} (hl : look L k = some (j, b, bs)) (hbad : at_ < 0 ∨ (bs.length : Int) - ys.length < at_) :
    Calls Tryd.prog 16 #[.pointer (some ⟨g, 0, none⟩), .int .i64 k, .int .i64 at_, v] w fun e w' => e = .returned (errV A 8) ∧ w = w' := by
  have c1 : w.cell? ⟨2, 0, none⟩ = some (.iface 120 (.pointer (some (A 8)))) := hE.var h8
  have hlt : 2 < w.heap.size := World.block_lt_of_cell? _ _ c1
  have hlk := run_lookup_ok h k
  have gc0 := h.box.cell 0
  simp at gc0
  rw [hl] at hlk
  simp [lookV] at hlk
  have hbl : bs.length ≤ 65536 := hS _ (look_mem L k j b bs hl).1
  obtain ⟨_, VA, vc, rfl, _, _, _, _⟩ := hv
  rw [bv_length]
  obtain ⟨n, hn⟩ : ∃ n, n = bs.length := ⟨_, rfl⟩
  obtain ⟨q, hq⟩ : ∃ n, n = ys.length := ⟨_, rfl⟩
  rw [← hn] at hlk hbad hbl
  rw [← hq] at hbad hy ⊢
  clear hl hE h hS hn hq
  rcases Int.lt_or_le at_ 0 with h0 | h0
  · have d : decide (at_ < 0) = true := by simpa using h0
    go_enter Tryd.func16, Tryd.ntmps16
    go_wp2
    go_ret
    exact ⟨rfl, rfl⟩
  · have d : decide (at_ < 0) = false := by simpa using h0
    have d2 : decide ((n : Int) - (q : Int) < at_) = true := by simp; omega
    go_enter Tryd.func16, Tryd.ntmps16
    go_wp2
    go_ret
    exact ⟨rfl, rfl⟩
set_option maxHeartbeats 1600000 in
theorem mwrite_ok (B g m : Nat) (L : List Ent) (k : Int) (a : Nat) (v : Value) (ys : List UInt8) (w : World) (h : MemIs w B g m L) (hS : Small L) (hv : Sl w w.heap.size v (bv ys)) {j b : Nat} {bs : List UInt8} (hl : look L k = some (j, b, bs)) (ha : a + ys.length ≤ bs.length) :
    Calls Tryd.prog 16 #[.pointer (some ⟨g, 0, none⟩), .int .i64 k, .int .i64 (a : Int), v] w fun e w' => e = .returned .nilIface ∧
      MemIs w' B g m (put L k (b, over bs a ys)) ∧ MStep w w' m L (put L k (b, over bs a ys)) := by
  have hlk := run_lookup_ok h k
  have gc0 := h.box.cell 0
  simp at gc0
  rw [hl] at hlk
  simp [lookV] at hlk
  have hbl : bs.length ≤ 65536 := hS _ (look_mem L k j b bs hl).1
  have hb := h.row _ (look_mem L k j b bs hl).1
  have key : ∀ (A : Option Addr) (dl dc : Nat), ys.length ≤ dl → (0 < ys.length → A = some ⟨b, a, none⟩) → ∃ w', (Builtin.copy_ #[31, 31] 3 #[.slice A dl dc, v]).run Tryd.prog w = .ok (.int .i64 (ys.length : Nat)) w' ∧ Hid (MemIs w' B g m (put L k (b, over bs a ys)) ∧ MStep w w' m L (put L k (b, over bs a ys))) := by
    intro A dl dc hd hA
    have hmin : min ys.length dl = ys.length := Nat.min_eq_left hd
    obtain ⟨w', r1, r2, r3, _, _⟩ := run_copy_bytes w 3 A dl dc b a bs ys v hb hv (by rw [hmin]; exact hA) (by rw [hmin]; exact ha)
    rw [hmin] at r1
    rw [List.take_of_length_le hd] at r2
    exact ⟨w', r1, h.wrote hl (over_length _ _ _ ha) r2 r3⟩
  have hv' := hv
  obtain ⟨_, VA, vc, rfl, hvc, hvm, _, _⟩ := hv'
  rw [bv_length] at key hvc ⊢
  obtain ⟨n, hn⟩ : ∃ n, n = bs.length := ⟨_, rfl⟩
  obtain ⟨q, hq⟩ : ∃ n, n = ys.length := ⟨_, rfl⟩
  rw [← hn] at hlk hbl ha
  rw [← hq] at ha key hvc ⊢
  unfold maxLen at hvm
  have d : decide ((a : Int) < 0) = false := by simp
  have d2 : decide ((n : Int) - (q : Int) < (a : Int)) = false := by simp; omega
  rcases Nat.lt_or_ge a n with h0 | h0
  · obtain ⟨w', hcp, HF⟩ := key (some ⟨b, a, none⟩) (n - a) (n - a) (by omega) (fun _ => rfl)
    clear key hl h hS hn hq hv hb
    go_enter Tryd.func16, Tryd.ntmps16
    go_wp2
    go_ret
    exact ⟨rfl, HF.out⟩
  · obtain rfl : a = n := by omega
    obtain rfl : q = 0 := by omega
    obtain ⟨w', hcp, HF⟩ := key (some ⟨b, 0, none⟩) 0 0 (by omega) (fun h => absurd h (Nat.lt_irrefl _))
    clear key hl h hS hn hq hv hb
    go_enter Tryd.func16, Tryd.ntmps16
    go_wp2
    go_ret
    exact ⟨rfl, HF.out⟩
end Go.Proofs.YtagjmkgbfbaekaaDoor
