/- fault.Code over an error whose kind is told; the reference's Code and Text. No condition but what is laid. -/
import Derived.Test.YtplegaadljbhoaaDoorFAwake
namespace Go.Proofs.YtplegaadljbhoaaDoor
open Go.RowKit Go.Extern.Stop Go.Stop Go.Extern
set_option linter.unusedVariables false
set_option maxRecDepth 100000

def codeR : Nat → Int
  | 1 => 0 | 2 => 1 | 3 => 1 | 4 => 2 | 5 => 0 | 6 => 1 | 7 => 3 | 8 => 4 | 9 => 5 | 10 => 6 | 11 => 7 | 12 => 8 | 13 => 9 | 14 => 2 | _ => 10
theorem ceq_same (A : Nat → Addr) (k : Nat) (w : World) : (binOp .eql 24 (.iface 68 (.pointer (some (A k)))) (.iface 68 (.pointer (some (A k))))).run Tryd.prog w = .ok (.bool true) w := by
  obtain ⟨i, hi, hcmp⟩ := Option.map_eq_some_iff.1 Tryd.isComp
  obtain ⟨j, hj, hjs⟩ := Option.map_eq_some_iff.1 Tryd.isSize
  exact run_eql_iface_ptr_same (P := Tryd.prog) w (A k) Tryd.underlying24 Tryd.underlying68 hi hcmp hj
theorem ceq_other (A : Nat → Addr) (k q : Nat) (w : World) (hE : Errs w w.heap.size allErrs A) (h1 : 1 ≤ k ∧ k ≤ 16) (h2 : 1 ≤ q ∧ q ≤ 16) (h : k ≠ q) : (binOp .eql 24 (.iface 68 (.pointer (some (A k)))) (.iface 68 (.pointer (some (A q))))).run Tryd.prog w = .ok (.bool false) w := by
  obtain ⟨i, hi, hcmp⟩ := Option.map_eq_some_iff.1 Tryd.isComp
  obtain ⟨j, hj, hjs⟩ := Option.map_eq_some_iff.1 Tryd.isSize
  obtain ⟨_, _, _, _, ⟨c1, t1, h5⟩, _⟩ := hE.1 k (mem_all k h1.1 h1.2)
  obtain ⟨_, _, _, _, ⟨c2, t2, h6⟩, _⟩ := hE.1 q (mem_all q h2.1 h2.2)
  have hne : A k ≠ A q := fun e => h (hE.2 k (mem_all k h1.1 h1.2) q (mem_all q h2.1 h2.2) e)
  exact run_eql_iface_ptr_other (P := Tryd.prog) w Tryd.underlying24 Tryd.underlying68 hi hcmp hj (by rw [hjs]; decide) hne h5 h6

set_option maxHeartbeats 4000000 in
theorem code_gen (A : Nat → Addr) (v : Value) (k : Nat) (hk : k ≤ 17) (w : World) (hE : Errs w w.heap.size allErrs A)
    (hc : ∀ w', Below w.heap.size w w' → Calls Tryd.prog 17 #[v] w' fun e w2 => e = .returned (.int .i64 (k : Int)) ∧ Below w'.heap.size w' w2) :
    Calls Tryd.prog 21 #[v] w fun ev w' => ev = .returned (.int .i64 (codeR k)) ∧ Below w.heap.size w w' := by
  have HC := Lib.hid hc
  have HE := Lib.hid hE
  clear hE hc
  go_enter Tryd.func21, Tryd.ntmps21
  go_wp2_with fail
  refine (kinds_any A w HE.out).mono ?_
  rintro ev w1 ⟨rfl, hblk, hb1⟩
  have HB1 := Lib.hid hb1
  have HK := Lib.hid hblk
  clear hb1 hblk
  obtain ⟨g, hg⟩ : ∃ g, g = w.heap.size := ⟨_, rfl⟩
  rw [← hg] at HK ⊢
  have HG := Lib.hid hg
  clear hg
  go_wp2_with fail
  refine (HC.out w1 (by have := HB1.out; exact this)).mono ?_
  rintro ev w2 ⟨rfl, hb2⟩
  have HB2 := Lib.hid (HB1.out.trans (hb2.mono HB1.out.size))
  have hblk2 : Blk w2 g 24 (errCells A) := HK.out.below hb2 HK.out.lt
  have HK2 := Lib.hid hblk2
  have HE2 := Lib.hid (HE.out.to HB2.out HB2.out.size)
  clear hb2 hblk2 HK HC
  have hcs : k = 0 ∨ k = 17 ∨ k = 1 ∨ k = 2 ∨ k = 3 ∨ k = 4 ∨ k = 5 ∨ k = 6 ∨ k = 7 ∨ k = 8 ∨ k = 9 ∨ k = 10 ∨ k = 11 ∨ k = 12 ∨ k = 13 ∨ k = 14 ∨ k = 15 ∨ k = 16 := by omega
  rcases hcs with rfl | rfl | rfl | rfl | rfl | rfl | rfl | rfl | rfl | rfl | rfl | rfl | rfl | rfl | rfl | rfl | rfl | rfl
  · go_wp2_with fail
    go_ret
    exact ⟨rfl, HB2.out⟩
  · go_wp2_with fail
    go_ret
    exact ⟨rfl, HB2.out⟩
  · have q0 : w2.cell? ⟨g, 0, none⟩ = some (.iface 68 (.pointer (some (A 1)))) := HK2.out.cell 0
    have c1 : w2.cell? ⟨0, 0, none⟩ = some (.iface 68 (.pointer (some (A 1)))) := HE2.out.var (mem_all 1 (by omega) (by omega))
    have e1 := ceq_same A 1 w2
    go_wp2_with fail
    go_ret
    exact ⟨rfl, HB2.out⟩
  · have q0 : w2.cell? ⟨g, 1, none⟩ = some (.iface 68 (.pointer (some (A 2)))) := HK2.out.cell 1
    have c1 : w2.cell? ⟨0, 0, none⟩ = some (.iface 68 (.pointer (some (A 1)))) := HE2.out.var (mem_all 1 (by omega) (by omega))
    have e1 := ceq_other A 2 1 w2 HE2.out (by omega) (by omega) (by omega)
    have c5 : w2.cell? ⟨5, 0, none⟩ = some (.iface 68 (.pointer (some (A 5)))) := HE2.out.var (mem_all 5 (by omega) (by omega))
    have e5 := ceq_other A 2 5 w2 HE2.out (by omega) (by omega) (by omega)
    have c2 : w2.cell? ⟨2, 0, none⟩ = some (.iface 68 (.pointer (some (A 2)))) := HE2.out.var (mem_all 2 (by omega) (by omega))
    have e2 := ceq_same A 2 w2
    go_wp2_with fail
    go_ret
    exact ⟨rfl, HB2.out⟩
  · have q0 : w2.cell? ⟨g, 2, none⟩ = some (.iface 68 (.pointer (some (A 3)))) := HK2.out.cell 2
    have c1 : w2.cell? ⟨0, 0, none⟩ = some (.iface 68 (.pointer (some (A 1)))) := HE2.out.var (mem_all 1 (by omega) (by omega))
    have e1 := ceq_other A 3 1 w2 HE2.out (by omega) (by omega) (by omega)
    have c5 : w2.cell? ⟨5, 0, none⟩ = some (.iface 68 (.pointer (some (A 5)))) := HE2.out.var (mem_all 5 (by omega) (by omega))
    have e5 := ceq_other A 3 5 w2 HE2.out (by omega) (by omega) (by omega)
    have c2 : w2.cell? ⟨2, 0, none⟩ = some (.iface 68 (.pointer (some (A 2)))) := HE2.out.var (mem_all 2 (by omega) (by omega))
    have e2 := ceq_other A 3 2 w2 HE2.out (by omega) (by omega) (by omega)
    have c3 : w2.cell? ⟨3, 0, none⟩ = some (.iface 68 (.pointer (some (A 3)))) := HE2.out.var (mem_all 3 (by omega) (by omega))
    have e3 := ceq_same A 3 w2
    go_wp2_with fail
    go_ret
    exact ⟨rfl, HB2.out⟩
  · have q0 : w2.cell? ⟨g, 3, none⟩ = some (.iface 68 (.pointer (some (A 4)))) := HK2.out.cell 3
    have c1 : w2.cell? ⟨0, 0, none⟩ = some (.iface 68 (.pointer (some (A 1)))) := HE2.out.var (mem_all 1 (by omega) (by omega))
    have e1 := ceq_other A 4 1 w2 HE2.out (by omega) (by omega) (by omega)
    have c5 : w2.cell? ⟨5, 0, none⟩ = some (.iface 68 (.pointer (some (A 5)))) := HE2.out.var (mem_all 5 (by omega) (by omega))
    have e5 := ceq_other A 4 5 w2 HE2.out (by omega) (by omega) (by omega)
    have c2 : w2.cell? ⟨2, 0, none⟩ = some (.iface 68 (.pointer (some (A 2)))) := HE2.out.var (mem_all 2 (by omega) (by omega))
    have e2 := ceq_other A 4 2 w2 HE2.out (by omega) (by omega) (by omega)
    have c3 : w2.cell? ⟨3, 0, none⟩ = some (.iface 68 (.pointer (some (A 3)))) := HE2.out.var (mem_all 3 (by omega) (by omega))
    have e3 := ceq_other A 4 3 w2 HE2.out (by omega) (by omega) (by omega)
    have c6 : w2.cell? ⟨6, 0, none⟩ = some (.iface 68 (.pointer (some (A 6)))) := HE2.out.var (mem_all 6 (by omega) (by omega))
    have e6 := ceq_other A 4 6 w2 HE2.out (by omega) (by omega) (by omega)
    have c4 : w2.cell? ⟨4, 0, none⟩ = some (.iface 68 (.pointer (some (A 4)))) := HE2.out.var (mem_all 4 (by omega) (by omega))
    have e4 := ceq_same A 4 w2
    go_wp2_with fail
    go_ret
    exact ⟨rfl, HB2.out⟩
  · have q0 : w2.cell? ⟨g, 4, none⟩ = some (.iface 68 (.pointer (some (A 5)))) := HK2.out.cell 4
    have c1 : w2.cell? ⟨0, 0, none⟩ = some (.iface 68 (.pointer (some (A 1)))) := HE2.out.var (mem_all 1 (by omega) (by omega))
    have e1 := ceq_other A 5 1 w2 HE2.out (by omega) (by omega) (by omega)
    have c5 : w2.cell? ⟨5, 0, none⟩ = some (.iface 68 (.pointer (some (A 5)))) := HE2.out.var (mem_all 5 (by omega) (by omega))
    have e5 := ceq_same A 5 w2
    go_wp2_with fail
    go_ret
    exact ⟨rfl, HB2.out⟩
  · have q0 : w2.cell? ⟨g, 5, none⟩ = some (.iface 68 (.pointer (some (A 6)))) := HK2.out.cell 5
    have c1 : w2.cell? ⟨0, 0, none⟩ = some (.iface 68 (.pointer (some (A 1)))) := HE2.out.var (mem_all 1 (by omega) (by omega))
    have e1 := ceq_other A 6 1 w2 HE2.out (by omega) (by omega) (by omega)
    have c5 : w2.cell? ⟨5, 0, none⟩ = some (.iface 68 (.pointer (some (A 5)))) := HE2.out.var (mem_all 5 (by omega) (by omega))
    have e5 := ceq_other A 6 5 w2 HE2.out (by omega) (by omega) (by omega)
    have c2 : w2.cell? ⟨2, 0, none⟩ = some (.iface 68 (.pointer (some (A 2)))) := HE2.out.var (mem_all 2 (by omega) (by omega))
    have e2 := ceq_other A 6 2 w2 HE2.out (by omega) (by omega) (by omega)
    have c3 : w2.cell? ⟨3, 0, none⟩ = some (.iface 68 (.pointer (some (A 3)))) := HE2.out.var (mem_all 3 (by omega) (by omega))
    have e3 := ceq_other A 6 3 w2 HE2.out (by omega) (by omega) (by omega)
    have c6 : w2.cell? ⟨6, 0, none⟩ = some (.iface 68 (.pointer (some (A 6)))) := HE2.out.var (mem_all 6 (by omega) (by omega))
    have e6 := ceq_same A 6 w2
    go_wp2_with fail
    go_ret
    exact ⟨rfl, HB2.out⟩
  · have q0 : w2.cell? ⟨g, 6, none⟩ = some (.iface 68 (.pointer (some (A 7)))) := HK2.out.cell 6
    have c1 : w2.cell? ⟨0, 0, none⟩ = some (.iface 68 (.pointer (some (A 1)))) := HE2.out.var (mem_all 1 (by omega) (by omega))
    have e1 := ceq_other A 7 1 w2 HE2.out (by omega) (by omega) (by omega)
    have c5 : w2.cell? ⟨5, 0, none⟩ = some (.iface 68 (.pointer (some (A 5)))) := HE2.out.var (mem_all 5 (by omega) (by omega))
    have e5 := ceq_other A 7 5 w2 HE2.out (by omega) (by omega) (by omega)
    have c2 : w2.cell? ⟨2, 0, none⟩ = some (.iface 68 (.pointer (some (A 2)))) := HE2.out.var (mem_all 2 (by omega) (by omega))
    have e2 := ceq_other A 7 2 w2 HE2.out (by omega) (by omega) (by omega)
    have c3 : w2.cell? ⟨3, 0, none⟩ = some (.iface 68 (.pointer (some (A 3)))) := HE2.out.var (mem_all 3 (by omega) (by omega))
    have e3 := ceq_other A 7 3 w2 HE2.out (by omega) (by omega) (by omega)
    have c6 : w2.cell? ⟨6, 0, none⟩ = some (.iface 68 (.pointer (some (A 6)))) := HE2.out.var (mem_all 6 (by omega) (by omega))
    have e6 := ceq_other A 7 6 w2 HE2.out (by omega) (by omega) (by omega)
    have c4 : w2.cell? ⟨4, 0, none⟩ = some (.iface 68 (.pointer (some (A 4)))) := HE2.out.var (mem_all 4 (by omega) (by omega))
    have e4 := ceq_other A 7 4 w2 HE2.out (by omega) (by omega) (by omega)
    have c14 : w2.cell? ⟨13, 0, none⟩ = some (.iface 68 (.pointer (some (A 14)))) := HE2.out.var (mem_all 14 (by omega) (by omega))
    have e14 := ceq_other A 7 14 w2 HE2.out (by omega) (by omega) (by omega)
    have c7 : w2.cell? ⟨7, 0, none⟩ = some (.iface 68 (.pointer (some (A 7)))) := HE2.out.var (mem_all 7 (by omega) (by omega))
    have e7 := ceq_same A 7 w2
    go_wp2_with fail
    go_ret
    exact ⟨rfl, HB2.out⟩
  · have q0 : w2.cell? ⟨g, 7, none⟩ = some (.iface 68 (.pointer (some (A 8)))) := HK2.out.cell 7
    have c1 : w2.cell? ⟨0, 0, none⟩ = some (.iface 68 (.pointer (some (A 1)))) := HE2.out.var (mem_all 1 (by omega) (by omega))
    have e1 := ceq_other A 8 1 w2 HE2.out (by omega) (by omega) (by omega)
    have c5 : w2.cell? ⟨5, 0, none⟩ = some (.iface 68 (.pointer (some (A 5)))) := HE2.out.var (mem_all 5 (by omega) (by omega))
    have e5 := ceq_other A 8 5 w2 HE2.out (by omega) (by omega) (by omega)
    have c2 : w2.cell? ⟨2, 0, none⟩ = some (.iface 68 (.pointer (some (A 2)))) := HE2.out.var (mem_all 2 (by omega) (by omega))
    have e2 := ceq_other A 8 2 w2 HE2.out (by omega) (by omega) (by omega)
    have c3 : w2.cell? ⟨3, 0, none⟩ = some (.iface 68 (.pointer (some (A 3)))) := HE2.out.var (mem_all 3 (by omega) (by omega))
    have e3 := ceq_other A 8 3 w2 HE2.out (by omega) (by omega) (by omega)
    have c6 : w2.cell? ⟨6, 0, none⟩ = some (.iface 68 (.pointer (some (A 6)))) := HE2.out.var (mem_all 6 (by omega) (by omega))
    have e6 := ceq_other A 8 6 w2 HE2.out (by omega) (by omega) (by omega)
    have c4 : w2.cell? ⟨4, 0, none⟩ = some (.iface 68 (.pointer (some (A 4)))) := HE2.out.var (mem_all 4 (by omega) (by omega))
    have e4 := ceq_other A 8 4 w2 HE2.out (by omega) (by omega) (by omega)
    have c14 : w2.cell? ⟨13, 0, none⟩ = some (.iface 68 (.pointer (some (A 14)))) := HE2.out.var (mem_all 14 (by omega) (by omega))
    have e14 := ceq_other A 8 14 w2 HE2.out (by omega) (by omega) (by omega)
    have c7 : w2.cell? ⟨7, 0, none⟩ = some (.iface 68 (.pointer (some (A 7)))) := HE2.out.var (mem_all 7 (by omega) (by omega))
    have e7 := ceq_other A 8 7 w2 HE2.out (by omega) (by omega) (by omega)
    have c8 : w2.cell? ⟨8, 0, none⟩ = some (.iface 68 (.pointer (some (A 8)))) := HE2.out.var (mem_all 8 (by omega) (by omega))
    have e8 := ceq_same A 8 w2
    go_wp2_with fail
    go_ret
    exact ⟨rfl, HB2.out⟩
  · have q0 : w2.cell? ⟨g, 8, none⟩ = some (.iface 68 (.pointer (some (A 9)))) := HK2.out.cell 8
    have c1 : w2.cell? ⟨0, 0, none⟩ = some (.iface 68 (.pointer (some (A 1)))) := HE2.out.var (mem_all 1 (by omega) (by omega))
    have e1 := ceq_other A 9 1 w2 HE2.out (by omega) (by omega) (by omega)
    have c5 : w2.cell? ⟨5, 0, none⟩ = some (.iface 68 (.pointer (some (A 5)))) := HE2.out.var (mem_all 5 (by omega) (by omega))
    have e5 := ceq_other A 9 5 w2 HE2.out (by omega) (by omega) (by omega)
    have c2 : w2.cell? ⟨2, 0, none⟩ = some (.iface 68 (.pointer (some (A 2)))) := HE2.out.var (mem_all 2 (by omega) (by omega))
    have e2 := ceq_other A 9 2 w2 HE2.out (by omega) (by omega) (by omega)
    have c3 : w2.cell? ⟨3, 0, none⟩ = some (.iface 68 (.pointer (some (A 3)))) := HE2.out.var (mem_all 3 (by omega) (by omega))
    have e3 := ceq_other A 9 3 w2 HE2.out (by omega) (by omega) (by omega)
    have c6 : w2.cell? ⟨6, 0, none⟩ = some (.iface 68 (.pointer (some (A 6)))) := HE2.out.var (mem_all 6 (by omega) (by omega))
    have e6 := ceq_other A 9 6 w2 HE2.out (by omega) (by omega) (by omega)
    have c4 : w2.cell? ⟨4, 0, none⟩ = some (.iface 68 (.pointer (some (A 4)))) := HE2.out.var (mem_all 4 (by omega) (by omega))
    have e4 := ceq_other A 9 4 w2 HE2.out (by omega) (by omega) (by omega)
    have c14 : w2.cell? ⟨13, 0, none⟩ = some (.iface 68 (.pointer (some (A 14)))) := HE2.out.var (mem_all 14 (by omega) (by omega))
    have e14 := ceq_other A 9 14 w2 HE2.out (by omega) (by omega) (by omega)
    have c7 : w2.cell? ⟨7, 0, none⟩ = some (.iface 68 (.pointer (some (A 7)))) := HE2.out.var (mem_all 7 (by omega) (by omega))
    have e7 := ceq_other A 9 7 w2 HE2.out (by omega) (by omega) (by omega)
    have c8 : w2.cell? ⟨8, 0, none⟩ = some (.iface 68 (.pointer (some (A 8)))) := HE2.out.var (mem_all 8 (by omega) (by omega))
    have e8 := ceq_other A 9 8 w2 HE2.out (by omega) (by omega) (by omega)
    have c9 : w2.cell? ⟨9, 0, none⟩ = some (.iface 68 (.pointer (some (A 9)))) := HE2.out.var (mem_all 9 (by omega) (by omega))
    have e9 := ceq_same A 9 w2
    go_wp2_with fail
    go_ret
    exact ⟨rfl, HB2.out⟩
  · have q0 : w2.cell? ⟨g, 9, none⟩ = some (.iface 68 (.pointer (some (A 10)))) := HK2.out.cell 9
    have c1 : w2.cell? ⟨0, 0, none⟩ = some (.iface 68 (.pointer (some (A 1)))) := HE2.out.var (mem_all 1 (by omega) (by omega))
    have e1 := ceq_other A 10 1 w2 HE2.out (by omega) (by omega) (by omega)
    have c5 : w2.cell? ⟨5, 0, none⟩ = some (.iface 68 (.pointer (some (A 5)))) := HE2.out.var (mem_all 5 (by omega) (by omega))
    have e5 := ceq_other A 10 5 w2 HE2.out (by omega) (by omega) (by omega)
    have c2 : w2.cell? ⟨2, 0, none⟩ = some (.iface 68 (.pointer (some (A 2)))) := HE2.out.var (mem_all 2 (by omega) (by omega))
    have e2 := ceq_other A 10 2 w2 HE2.out (by omega) (by omega) (by omega)
    have c3 : w2.cell? ⟨3, 0, none⟩ = some (.iface 68 (.pointer (some (A 3)))) := HE2.out.var (mem_all 3 (by omega) (by omega))
    have e3 := ceq_other A 10 3 w2 HE2.out (by omega) (by omega) (by omega)
    have c6 : w2.cell? ⟨6, 0, none⟩ = some (.iface 68 (.pointer (some (A 6)))) := HE2.out.var (mem_all 6 (by omega) (by omega))
    have e6 := ceq_other A 10 6 w2 HE2.out (by omega) (by omega) (by omega)
    have c4 : w2.cell? ⟨4, 0, none⟩ = some (.iface 68 (.pointer (some (A 4)))) := HE2.out.var (mem_all 4 (by omega) (by omega))
    have e4 := ceq_other A 10 4 w2 HE2.out (by omega) (by omega) (by omega)
    have c14 : w2.cell? ⟨13, 0, none⟩ = some (.iface 68 (.pointer (some (A 14)))) := HE2.out.var (mem_all 14 (by omega) (by omega))
    have e14 := ceq_other A 10 14 w2 HE2.out (by omega) (by omega) (by omega)
    have c7 : w2.cell? ⟨7, 0, none⟩ = some (.iface 68 (.pointer (some (A 7)))) := HE2.out.var (mem_all 7 (by omega) (by omega))
    have e7 := ceq_other A 10 7 w2 HE2.out (by omega) (by omega) (by omega)
    have c8 : w2.cell? ⟨8, 0, none⟩ = some (.iface 68 (.pointer (some (A 8)))) := HE2.out.var (mem_all 8 (by omega) (by omega))
    have e8 := ceq_other A 10 8 w2 HE2.out (by omega) (by omega) (by omega)
    have c9 : w2.cell? ⟨9, 0, none⟩ = some (.iface 68 (.pointer (some (A 9)))) := HE2.out.var (mem_all 9 (by omega) (by omega))
    have e9 := ceq_other A 10 9 w2 HE2.out (by omega) (by omega) (by omega)
    have c10 : w2.cell? ⟨1, 0, none⟩ = some (.iface 68 (.pointer (some (A 10)))) := HE2.out.var (mem_all 10 (by omega) (by omega))
    have e10 := ceq_same A 10 w2
    go_wp2_with fail
    go_ret
    exact ⟨rfl, HB2.out⟩
  · have q0 : w2.cell? ⟨g, 10, none⟩ = some (.iface 68 (.pointer (some (A 11)))) := HK2.out.cell 10
    have c1 : w2.cell? ⟨0, 0, none⟩ = some (.iface 68 (.pointer (some (A 1)))) := HE2.out.var (mem_all 1 (by omega) (by omega))
    have e1 := ceq_other A 11 1 w2 HE2.out (by omega) (by omega) (by omega)
    have c5 : w2.cell? ⟨5, 0, none⟩ = some (.iface 68 (.pointer (some (A 5)))) := HE2.out.var (mem_all 5 (by omega) (by omega))
    have e5 := ceq_other A 11 5 w2 HE2.out (by omega) (by omega) (by omega)
    have c2 : w2.cell? ⟨2, 0, none⟩ = some (.iface 68 (.pointer (some (A 2)))) := HE2.out.var (mem_all 2 (by omega) (by omega))
    have e2 := ceq_other A 11 2 w2 HE2.out (by omega) (by omega) (by omega)
    have c3 : w2.cell? ⟨3, 0, none⟩ = some (.iface 68 (.pointer (some (A 3)))) := HE2.out.var (mem_all 3 (by omega) (by omega))
    have e3 := ceq_other A 11 3 w2 HE2.out (by omega) (by omega) (by omega)
    have c6 : w2.cell? ⟨6, 0, none⟩ = some (.iface 68 (.pointer (some (A 6)))) := HE2.out.var (mem_all 6 (by omega) (by omega))
    have e6 := ceq_other A 11 6 w2 HE2.out (by omega) (by omega) (by omega)
    have c4 : w2.cell? ⟨4, 0, none⟩ = some (.iface 68 (.pointer (some (A 4)))) := HE2.out.var (mem_all 4 (by omega) (by omega))
    have e4 := ceq_other A 11 4 w2 HE2.out (by omega) (by omega) (by omega)
    have c14 : w2.cell? ⟨13, 0, none⟩ = some (.iface 68 (.pointer (some (A 14)))) := HE2.out.var (mem_all 14 (by omega) (by omega))
    have e14 := ceq_other A 11 14 w2 HE2.out (by omega) (by omega) (by omega)
    have c7 : w2.cell? ⟨7, 0, none⟩ = some (.iface 68 (.pointer (some (A 7)))) := HE2.out.var (mem_all 7 (by omega) (by omega))
    have e7 := ceq_other A 11 7 w2 HE2.out (by omega) (by omega) (by omega)
    have c8 : w2.cell? ⟨8, 0, none⟩ = some (.iface 68 (.pointer (some (A 8)))) := HE2.out.var (mem_all 8 (by omega) (by omega))
    have e8 := ceq_other A 11 8 w2 HE2.out (by omega) (by omega) (by omega)
    have c9 : w2.cell? ⟨9, 0, none⟩ = some (.iface 68 (.pointer (some (A 9)))) := HE2.out.var (mem_all 9 (by omega) (by omega))
    have e9 := ceq_other A 11 9 w2 HE2.out (by omega) (by omega) (by omega)
    have c10 : w2.cell? ⟨1, 0, none⟩ = some (.iface 68 (.pointer (some (A 10)))) := HE2.out.var (mem_all 10 (by omega) (by omega))
    have e10 := ceq_other A 11 10 w2 HE2.out (by omega) (by omega) (by omega)
    have c11 : w2.cell? ⟨10, 0, none⟩ = some (.iface 68 (.pointer (some (A 11)))) := HE2.out.var (mem_all 11 (by omega) (by omega))
    have e11 := ceq_same A 11 w2
    go_wp2_with fail
    go_ret
    exact ⟨rfl, HB2.out⟩
  · have q0 : w2.cell? ⟨g, 11, none⟩ = some (.iface 68 (.pointer (some (A 12)))) := HK2.out.cell 11
    have c1 : w2.cell? ⟨0, 0, none⟩ = some (.iface 68 (.pointer (some (A 1)))) := HE2.out.var (mem_all 1 (by omega) (by omega))
    have e1 := ceq_other A 12 1 w2 HE2.out (by omega) (by omega) (by omega)
    have c5 : w2.cell? ⟨5, 0, none⟩ = some (.iface 68 (.pointer (some (A 5)))) := HE2.out.var (mem_all 5 (by omega) (by omega))
    have e5 := ceq_other A 12 5 w2 HE2.out (by omega) (by omega) (by omega)
    have c2 : w2.cell? ⟨2, 0, none⟩ = some (.iface 68 (.pointer (some (A 2)))) := HE2.out.var (mem_all 2 (by omega) (by omega))
    have e2 := ceq_other A 12 2 w2 HE2.out (by omega) (by omega) (by omega)
    have c3 : w2.cell? ⟨3, 0, none⟩ = some (.iface 68 (.pointer (some (A 3)))) := HE2.out.var (mem_all 3 (by omega) (by omega))
    have e3 := ceq_other A 12 3 w2 HE2.out (by omega) (by omega) (by omega)
    have c6 : w2.cell? ⟨6, 0, none⟩ = some (.iface 68 (.pointer (some (A 6)))) := HE2.out.var (mem_all 6 (by omega) (by omega))
    have e6 := ceq_other A 12 6 w2 HE2.out (by omega) (by omega) (by omega)
    have c4 : w2.cell? ⟨4, 0, none⟩ = some (.iface 68 (.pointer (some (A 4)))) := HE2.out.var (mem_all 4 (by omega) (by omega))
    have e4 := ceq_other A 12 4 w2 HE2.out (by omega) (by omega) (by omega)
    have c14 : w2.cell? ⟨13, 0, none⟩ = some (.iface 68 (.pointer (some (A 14)))) := HE2.out.var (mem_all 14 (by omega) (by omega))
    have e14 := ceq_other A 12 14 w2 HE2.out (by omega) (by omega) (by omega)
    have c7 : w2.cell? ⟨7, 0, none⟩ = some (.iface 68 (.pointer (some (A 7)))) := HE2.out.var (mem_all 7 (by omega) (by omega))
    have e7 := ceq_other A 12 7 w2 HE2.out (by omega) (by omega) (by omega)
    have c8 : w2.cell? ⟨8, 0, none⟩ = some (.iface 68 (.pointer (some (A 8)))) := HE2.out.var (mem_all 8 (by omega) (by omega))
    have e8 := ceq_other A 12 8 w2 HE2.out (by omega) (by omega) (by omega)
    have c9 : w2.cell? ⟨9, 0, none⟩ = some (.iface 68 (.pointer (some (A 9)))) := HE2.out.var (mem_all 9 (by omega) (by omega))
    have e9 := ceq_other A 12 9 w2 HE2.out (by omega) (by omega) (by omega)
    have c10 : w2.cell? ⟨1, 0, none⟩ = some (.iface 68 (.pointer (some (A 10)))) := HE2.out.var (mem_all 10 (by omega) (by omega))
    have e10 := ceq_other A 12 10 w2 HE2.out (by omega) (by omega) (by omega)
    have c11 : w2.cell? ⟨10, 0, none⟩ = some (.iface 68 (.pointer (some (A 11)))) := HE2.out.var (mem_all 11 (by omega) (by omega))
    have e11 := ceq_other A 12 11 w2 HE2.out (by omega) (by omega) (by omega)
    have c12 : w2.cell? ⟨11, 0, none⟩ = some (.iface 68 (.pointer (some (A 12)))) := HE2.out.var (mem_all 12 (by omega) (by omega))
    have e12 := ceq_same A 12 w2
    go_wp2_with fail
    go_ret
    exact ⟨rfl, HB2.out⟩
  · have q0 : w2.cell? ⟨g, 12, none⟩ = some (.iface 68 (.pointer (some (A 13)))) := HK2.out.cell 12
    have c1 : w2.cell? ⟨0, 0, none⟩ = some (.iface 68 (.pointer (some (A 1)))) := HE2.out.var (mem_all 1 (by omega) (by omega))
    have e1 := ceq_other A 13 1 w2 HE2.out (by omega) (by omega) (by omega)
    have c5 : w2.cell? ⟨5, 0, none⟩ = some (.iface 68 (.pointer (some (A 5)))) := HE2.out.var (mem_all 5 (by omega) (by omega))
    have e5 := ceq_other A 13 5 w2 HE2.out (by omega) (by omega) (by omega)
    have c2 : w2.cell? ⟨2, 0, none⟩ = some (.iface 68 (.pointer (some (A 2)))) := HE2.out.var (mem_all 2 (by omega) (by omega))
    have e2 := ceq_other A 13 2 w2 HE2.out (by omega) (by omega) (by omega)
    have c3 : w2.cell? ⟨3, 0, none⟩ = some (.iface 68 (.pointer (some (A 3)))) := HE2.out.var (mem_all 3 (by omega) (by omega))
    have e3 := ceq_other A 13 3 w2 HE2.out (by omega) (by omega) (by omega)
    have c6 : w2.cell? ⟨6, 0, none⟩ = some (.iface 68 (.pointer (some (A 6)))) := HE2.out.var (mem_all 6 (by omega) (by omega))
    have e6 := ceq_other A 13 6 w2 HE2.out (by omega) (by omega) (by omega)
    have c4 : w2.cell? ⟨4, 0, none⟩ = some (.iface 68 (.pointer (some (A 4)))) := HE2.out.var (mem_all 4 (by omega) (by omega))
    have e4 := ceq_other A 13 4 w2 HE2.out (by omega) (by omega) (by omega)
    have c14 : w2.cell? ⟨13, 0, none⟩ = some (.iface 68 (.pointer (some (A 14)))) := HE2.out.var (mem_all 14 (by omega) (by omega))
    have e14 := ceq_other A 13 14 w2 HE2.out (by omega) (by omega) (by omega)
    have c7 : w2.cell? ⟨7, 0, none⟩ = some (.iface 68 (.pointer (some (A 7)))) := HE2.out.var (mem_all 7 (by omega) (by omega))
    have e7 := ceq_other A 13 7 w2 HE2.out (by omega) (by omega) (by omega)
    have c8 : w2.cell? ⟨8, 0, none⟩ = some (.iface 68 (.pointer (some (A 8)))) := HE2.out.var (mem_all 8 (by omega) (by omega))
    have e8 := ceq_other A 13 8 w2 HE2.out (by omega) (by omega) (by omega)
    have c9 : w2.cell? ⟨9, 0, none⟩ = some (.iface 68 (.pointer (some (A 9)))) := HE2.out.var (mem_all 9 (by omega) (by omega))
    have e9 := ceq_other A 13 9 w2 HE2.out (by omega) (by omega) (by omega)
    have c10 : w2.cell? ⟨1, 0, none⟩ = some (.iface 68 (.pointer (some (A 10)))) := HE2.out.var (mem_all 10 (by omega) (by omega))
    have e10 := ceq_other A 13 10 w2 HE2.out (by omega) (by omega) (by omega)
    have c11 : w2.cell? ⟨10, 0, none⟩ = some (.iface 68 (.pointer (some (A 11)))) := HE2.out.var (mem_all 11 (by omega) (by omega))
    have e11 := ceq_other A 13 11 w2 HE2.out (by omega) (by omega) (by omega)
    have c12 : w2.cell? ⟨11, 0, none⟩ = some (.iface 68 (.pointer (some (A 12)))) := HE2.out.var (mem_all 12 (by omega) (by omega))
    have e12 := ceq_other A 13 12 w2 HE2.out (by omega) (by omega) (by omega)
    have c13 : w2.cell? ⟨12, 0, none⟩ = some (.iface 68 (.pointer (some (A 13)))) := HE2.out.var (mem_all 13 (by omega) (by omega))
    have e13 := ceq_same A 13 w2
    go_wp2_with fail
    go_ret
    exact ⟨rfl, HB2.out⟩
  · have q0 : w2.cell? ⟨g, 13, none⟩ = some (.iface 68 (.pointer (some (A 14)))) := HK2.out.cell 13
    have c1 : w2.cell? ⟨0, 0, none⟩ = some (.iface 68 (.pointer (some (A 1)))) := HE2.out.var (mem_all 1 (by omega) (by omega))
    have e1 := ceq_other A 14 1 w2 HE2.out (by omega) (by omega) (by omega)
    have c5 : w2.cell? ⟨5, 0, none⟩ = some (.iface 68 (.pointer (some (A 5)))) := HE2.out.var (mem_all 5 (by omega) (by omega))
    have e5 := ceq_other A 14 5 w2 HE2.out (by omega) (by omega) (by omega)
    have c2 : w2.cell? ⟨2, 0, none⟩ = some (.iface 68 (.pointer (some (A 2)))) := HE2.out.var (mem_all 2 (by omega) (by omega))
    have e2 := ceq_other A 14 2 w2 HE2.out (by omega) (by omega) (by omega)
    have c3 : w2.cell? ⟨3, 0, none⟩ = some (.iface 68 (.pointer (some (A 3)))) := HE2.out.var (mem_all 3 (by omega) (by omega))
    have e3 := ceq_other A 14 3 w2 HE2.out (by omega) (by omega) (by omega)
    have c6 : w2.cell? ⟨6, 0, none⟩ = some (.iface 68 (.pointer (some (A 6)))) := HE2.out.var (mem_all 6 (by omega) (by omega))
    have e6 := ceq_other A 14 6 w2 HE2.out (by omega) (by omega) (by omega)
    have c4 : w2.cell? ⟨4, 0, none⟩ = some (.iface 68 (.pointer (some (A 4)))) := HE2.out.var (mem_all 4 (by omega) (by omega))
    have e4 := ceq_other A 14 4 w2 HE2.out (by omega) (by omega) (by omega)
    have c14 : w2.cell? ⟨13, 0, none⟩ = some (.iface 68 (.pointer (some (A 14)))) := HE2.out.var (mem_all 14 (by omega) (by omega))
    have e14 := ceq_same A 14 w2
    go_wp2_with fail
    go_ret
    exact ⟨rfl, HB2.out⟩
  · have q0 : w2.cell? ⟨g, 14, none⟩ = some (.iface 68 (.pointer (some (A 15)))) := HK2.out.cell 14
    have c1 : w2.cell? ⟨0, 0, none⟩ = some (.iface 68 (.pointer (some (A 1)))) := HE2.out.var (mem_all 1 (by omega) (by omega))
    have e1 := ceq_other A 15 1 w2 HE2.out (by omega) (by omega) (by omega)
    have c5 : w2.cell? ⟨5, 0, none⟩ = some (.iface 68 (.pointer (some (A 5)))) := HE2.out.var (mem_all 5 (by omega) (by omega))
    have e5 := ceq_other A 15 5 w2 HE2.out (by omega) (by omega) (by omega)
    have c2 : w2.cell? ⟨2, 0, none⟩ = some (.iface 68 (.pointer (some (A 2)))) := HE2.out.var (mem_all 2 (by omega) (by omega))
    have e2 := ceq_other A 15 2 w2 HE2.out (by omega) (by omega) (by omega)
    have c3 : w2.cell? ⟨3, 0, none⟩ = some (.iface 68 (.pointer (some (A 3)))) := HE2.out.var (mem_all 3 (by omega) (by omega))
    have e3 := ceq_other A 15 3 w2 HE2.out (by omega) (by omega) (by omega)
    have c6 : w2.cell? ⟨6, 0, none⟩ = some (.iface 68 (.pointer (some (A 6)))) := HE2.out.var (mem_all 6 (by omega) (by omega))
    have e6 := ceq_other A 15 6 w2 HE2.out (by omega) (by omega) (by omega)
    have c4 : w2.cell? ⟨4, 0, none⟩ = some (.iface 68 (.pointer (some (A 4)))) := HE2.out.var (mem_all 4 (by omega) (by omega))
    have e4 := ceq_other A 15 4 w2 HE2.out (by omega) (by omega) (by omega)
    have c14 : w2.cell? ⟨13, 0, none⟩ = some (.iface 68 (.pointer (some (A 14)))) := HE2.out.var (mem_all 14 (by omega) (by omega))
    have e14 := ceq_other A 15 14 w2 HE2.out (by omega) (by omega) (by omega)
    have c7 : w2.cell? ⟨7, 0, none⟩ = some (.iface 68 (.pointer (some (A 7)))) := HE2.out.var (mem_all 7 (by omega) (by omega))
    have e7 := ceq_other A 15 7 w2 HE2.out (by omega) (by omega) (by omega)
    have c8 : w2.cell? ⟨8, 0, none⟩ = some (.iface 68 (.pointer (some (A 8)))) := HE2.out.var (mem_all 8 (by omega) (by omega))
    have e8 := ceq_other A 15 8 w2 HE2.out (by omega) (by omega) (by omega)
    have c9 : w2.cell? ⟨9, 0, none⟩ = some (.iface 68 (.pointer (some (A 9)))) := HE2.out.var (mem_all 9 (by omega) (by omega))
    have e9 := ceq_other A 15 9 w2 HE2.out (by omega) (by omega) (by omega)
    have c10 : w2.cell? ⟨1, 0, none⟩ = some (.iface 68 (.pointer (some (A 10)))) := HE2.out.var (mem_all 10 (by omega) (by omega))
    have e10 := ceq_other A 15 10 w2 HE2.out (by omega) (by omega) (by omega)
    have c11 : w2.cell? ⟨10, 0, none⟩ = some (.iface 68 (.pointer (some (A 11)))) := HE2.out.var (mem_all 11 (by omega) (by omega))
    have e11 := ceq_other A 15 11 w2 HE2.out (by omega) (by omega) (by omega)
    have c12 : w2.cell? ⟨11, 0, none⟩ = some (.iface 68 (.pointer (some (A 12)))) := HE2.out.var (mem_all 12 (by omega) (by omega))
    have e12 := ceq_other A 15 12 w2 HE2.out (by omega) (by omega) (by omega)
    have c13 : w2.cell? ⟨12, 0, none⟩ = some (.iface 68 (.pointer (some (A 13)))) := HE2.out.var (mem_all 13 (by omega) (by omega))
    have e13 := ceq_other A 15 13 w2 HE2.out (by omega) (by omega) (by omega)
    go_wp2_with fail
    go_ret
    exact ⟨rfl, HB2.out⟩
  · have q0 : w2.cell? ⟨g, 15, none⟩ = some (.iface 68 (.pointer (some (A 16)))) := HK2.out.cell 15
    have c1 : w2.cell? ⟨0, 0, none⟩ = some (.iface 68 (.pointer (some (A 1)))) := HE2.out.var (mem_all 1 (by omega) (by omega))
    have e1 := ceq_other A 16 1 w2 HE2.out (by omega) (by omega) (by omega)
    have c5 : w2.cell? ⟨5, 0, none⟩ = some (.iface 68 (.pointer (some (A 5)))) := HE2.out.var (mem_all 5 (by omega) (by omega))
    have e5 := ceq_other A 16 5 w2 HE2.out (by omega) (by omega) (by omega)
    have c2 : w2.cell? ⟨2, 0, none⟩ = some (.iface 68 (.pointer (some (A 2)))) := HE2.out.var (mem_all 2 (by omega) (by omega))
    have e2 := ceq_other A 16 2 w2 HE2.out (by omega) (by omega) (by omega)
    have c3 : w2.cell? ⟨3, 0, none⟩ = some (.iface 68 (.pointer (some (A 3)))) := HE2.out.var (mem_all 3 (by omega) (by omega))
    have e3 := ceq_other A 16 3 w2 HE2.out (by omega) (by omega) (by omega)
    have c6 : w2.cell? ⟨6, 0, none⟩ = some (.iface 68 (.pointer (some (A 6)))) := HE2.out.var (mem_all 6 (by omega) (by omega))
    have e6 := ceq_other A 16 6 w2 HE2.out (by omega) (by omega) (by omega)
    have c4 : w2.cell? ⟨4, 0, none⟩ = some (.iface 68 (.pointer (some (A 4)))) := HE2.out.var (mem_all 4 (by omega) (by omega))
    have e4 := ceq_other A 16 4 w2 HE2.out (by omega) (by omega) (by omega)
    have c14 : w2.cell? ⟨13, 0, none⟩ = some (.iface 68 (.pointer (some (A 14)))) := HE2.out.var (mem_all 14 (by omega) (by omega))
    have e14 := ceq_other A 16 14 w2 HE2.out (by omega) (by omega) (by omega)
    have c7 : w2.cell? ⟨7, 0, none⟩ = some (.iface 68 (.pointer (some (A 7)))) := HE2.out.var (mem_all 7 (by omega) (by omega))
    have e7 := ceq_other A 16 7 w2 HE2.out (by omega) (by omega) (by omega)
    have c8 : w2.cell? ⟨8, 0, none⟩ = some (.iface 68 (.pointer (some (A 8)))) := HE2.out.var (mem_all 8 (by omega) (by omega))
    have e8 := ceq_other A 16 8 w2 HE2.out (by omega) (by omega) (by omega)
    have c9 : w2.cell? ⟨9, 0, none⟩ = some (.iface 68 (.pointer (some (A 9)))) := HE2.out.var (mem_all 9 (by omega) (by omega))
    have e9 := ceq_other A 16 9 w2 HE2.out (by omega) (by omega) (by omega)
    have c10 : w2.cell? ⟨1, 0, none⟩ = some (.iface 68 (.pointer (some (A 10)))) := HE2.out.var (mem_all 10 (by omega) (by omega))
    have e10 := ceq_other A 16 10 w2 HE2.out (by omega) (by omega) (by omega)
    have c11 : w2.cell? ⟨10, 0, none⟩ = some (.iface 68 (.pointer (some (A 11)))) := HE2.out.var (mem_all 11 (by omega) (by omega))
    have e11 := ceq_other A 16 11 w2 HE2.out (by omega) (by omega) (by omega)
    have c12 : w2.cell? ⟨11, 0, none⟩ = some (.iface 68 (.pointer (some (A 12)))) := HE2.out.var (mem_all 12 (by omega) (by omega))
    have e12 := ceq_other A 16 12 w2 HE2.out (by omega) (by omega) (by omega)
    have c13 : w2.cell? ⟨12, 0, none⟩ = some (.iface 68 (.pointer (some (A 13)))) := HE2.out.var (mem_all 13 (by omega) (by omega))
    have e13 := ceq_other A 16 13 w2 HE2.out (by omega) (by omega) (by omega)
    go_wp2_with fail
    go_ret
    exact ⟨rfl, HB2.out⟩

set_option maxHeartbeats 1000000 in
theorem rcode_any (k : Nat) (hk : k ≤ 16) (w : World) :
    Calls Tryd.prog 22 #[.int .i64 (k : Int)] w fun ev w' => ev = .returned (.int .i64 (codeR k)) ∧ w = w' := by
  have hcs : k = 0 ∨ k = 1 ∨ k = 2 ∨ k = 3 ∨ k = 4 ∨ k = 5 ∨ k = 6 ∨ k = 7 ∨ k = 8 ∨ k = 9 ∨ k = 10 ∨ k = 11 ∨ k = 12 ∨ k = 13 ∨ k = 14 ∨ k = 15 ∨ k = 16 := by omega
  rcases hcs with rfl | rfl | rfl | rfl | rfl | rfl | rfl | rfl | rfl | rfl | rfl | rfl | rfl | rfl | rfl | rfl | rfl
  all_goals
    go_enter Tryd.func22, Tryd.ntmps22
    go_wp2
    go_ret
    exact ⟨rfl, rfl⟩
set_option maxHeartbeats 1000000 in
theorem rtext_any (k : Nat) (hk : k ≤ 16) (w : World) :
    Calls Tryd.prog 20 #[.int .i64 (k : Int)] w fun ev w' => ev = .returned (.string (gtx k)) ∧ Below w.heap.size w w' := by
  have hcs : k = 0 ∨ k = 1 ∨ k = 2 ∨ k = 3 ∨ k = 4 ∨ k = 5 ∨ k = 6 ∨ k = 7 ∨ k = 8 ∨ k = 9 ∨ k = 10 ∨ k = 11 ∨ k = 12 ∨ k = 13 ∨ k = 14 ∨ k = 15 ∨ k = 16 := by omega
  rcases hcs with rfl | rfl | rfl | rfl | rfl | rfl | rfl | rfl | rfl | rfl | rfl | rfl | rfl | rfl | rfl | rfl | rfl
  all_goals
    go_enter Tryd.func20, Tryd.ntmps20
    go_wp2
    go_ret
    exact ⟨rfl, (Below.refl _ _).alloc (Nat.le_refl _) _⟩
theorem new_nil (A : Nat → Addr) (o c : Int) (w : World) :
    Calls Tryd.prog 12 #[.int .i64 o, .int .i64 c, .nilIface] w fun ev w' =>
      ev = .returned ((EC.fault w.heap.size o c ⟨#[]⟩ (.base 0)).val A) ∧ (EC.fault w.heap.size o c ⟨#[]⟩ (.base 0)).At A w' w'.heap.size ∧ Below w.heap.size w w' := by
  go_enter Tryd.func12, Tryd.ntmps12
  go_wp2
  go_ret
  exact ⟨rfl, ⟨by simp [World.size_alloc], Blk.new _ _ _, Nat.zero_le _⟩, (Below.refl _ _).alloc (Nat.le_refl _) _⟩
/-- Over any number's error, nil too. -/
theorem new_any2 (A : Nat → Addr) (k : Nat) (h2 : k ≤ 16) (o c : Int) (w : World) (hE : Errs w w.heap.size allErrs A) :
    Calls Tryd.prog 12 #[.int .i64 o, .int .i64 c, errV A k] w fun ev w' =>
      ev = .returned ((EC.fault w.heap.size o c (gtx k) (.base k)).val A) ∧ (EC.fault w.heap.size o c (gtx k) (.base k)).At A w' w'.heap.size ∧ Below w.heap.size w w' := by
  rcases Nat.eq_zero_or_pos k with rfl | h1
  · exact new_nil A o c w
  · rw [errV_pos A h1]; exact new_err A k h1 h2 o c w hE
/-- tableaulaw00.Error, of any number. -/
theorem error_any (A : Nat → Addr) (z : Int) (w : World) (hE : Errs w w.heap.size allErrs A) :
    ∃ k, k ≤ 16 ∧ Calls Tryd.prog 9 #[.int .i64 z] w fun e w' => e = .returned (errV A k) ∧ Below w.heap.size w w' := by
  by_cases h : z < 1 ∨ 16 < z
  · exact ⟨0, by omega, error_no A z h w hE⟩
  · refine ⟨(z - 1).toNat + 1, by omega, ?_⟩
    rw [errV_pos A (by omega)]
    exact error_ok A (z - 1).toNat (by omega) z (by omega) w hE
end Go.Proofs.YtplegaadljbhoaaDoor
