/- Plain laws for WireSizes: a message of so many numbers, and a text. No condition. -/
import Derived.Test.YtihbgkighckiiaaDoorWPut
import Derived.Test.YtihbgkighckiiaaDoorHead
import Derived.Test.YtihbgkighckiiaaDoorEnc
namespace Go.Proofs.YtihbgkighckiiaaDoor
open Go.RowKit
set_option maxRecDepth 100000

def numA (j : Nat) : ArgD := (117, (j : Int), ⟨#[]⟩)
def argsU (k : Nat) : List ArgD := (List.range' 0 k).map numA
def sigU (k : Nat) : ByteArray := strB (List.replicate k 117)
theorem argsU_length (k : Nat) : (argsU k).length = k := by simp [argsU]
theorem argsU_succ (k : Nat) : argsU (k + 1) = argsU k ++ [numA k] := by unfold argsU; rw [List.range'_1_concat, List.map_append]; simp
theorem sigU_size (k : Nat) : (sigU k).size = k := by unfold sigU; rw [strB_size]; simp
theorem app_lit (l : List UInt8) (c : UInt8) : strB l ++ ⟨#[c]⟩ = strB (l ++ [c]) := by
  apply Go.WideShapes.bytes_inj
  rw [ByteArray.data_append, Array.toList_append, strB_toList, strB_toList]
theorem sigU_succ (k : Nat) : sigU k ++ ⟨#[117]⟩ = sigU (k + 1) := by unfold sigU; rw [app_lit, List.replicate_succ']
theorem argCells_app (l m : List ArgD) : argCells (l ++ m) = argCells l ++ argCells m := by simp [argCells]
theorem okArgs_u (k : Nat) : ∀ (a : Nat) (r : List ArgD) (t : List UInt8), a + k ≤ 1000 → okArgs ((List.range' a k).map numA ++ r) (List.replicate k 117 ++ t) = okArgs r t := by
  induction k with
  | zero => intro a r t _; rfl
  | succ k ih =>
    intro a r t h
    rw [List.range'_succ, List.replicate_succ]
    simp only [List.map_cons, List.cons_append, okArgs]
    rw [ih (a + 1) r t (by omega)]
    have h1 : suchB (numA a).1 (numA a).2.1 (numA a).2.2 = true := by
      show suchB 117 (a : Int) ⟨#[]⟩ = true
      unfold suchB suchU
      simp; omega
    rw [h1]
    have h2 : decide ((numA a).1 = ((117 : UInt8).toNat : Int)) = true := by show decide ((117 : Int) = ((117 : UInt8).toNat : Int)) = true; decide
    rw [h2]; rfl
theorem body_u (k : Nat) : (bodyB (argsU k)).length = 4 * k := by
  induction k with
  | zero => rfl
  | succ k ih =>
    rw [argsU_succ]
    unfold bodyB at *
    rw [List.flatMap_append, List.length_append, ih]
    have : (List.flatMap argB [numA k]).length = 4 := by
      simp only [List.flatMap_cons, List.flatMap_nil, List.append_nil]
      rfl
    omega
def allA (k : Nat) (s : ByteArray) : List ArgD := argsU k ++ [(97, 0, s)]
def allS (k : Nat) : ByteArray := strB (List.replicate k 117 ++ [97])
theorem sigU_a (k : Nat) : sigU k ++ ⟨#[97]⟩ = allS k := app_lit _ _
theorem allS_size (k : Nat) : (allS k).size = k + 1 := by unfold allS; rw [strB_size]; simp
theorem allA_length (k : Nat) (s : ByteArray) : (allA k s).length = k + 1 := by simp [allA, argsU_length]
theorem all_fit (k : Nat) (s : ByteArray) (h : s.size ≤ 200) : Fit (allA k s) := by
  intro x hx
  simp only [allA, argsU, List.mem_append, List.mem_map, List.mem_singleton] at hx
  rcases hx with ⟨j, _, rfl⟩ | rfl
  · show (⟨#[]⟩ : ByteArray).size ≤ 140737488351232; decide
  · show s.size ≤ _; omega
theorem all_body (k : Nat) (s : ByteArray) : (bodyB (allA k s)).length = 4 * k + (4 + fillN s.size) := by
  have h := body_u k
  unfold allA bodyB at *
  rw [List.flatMap_append, List.length_append, h]
  have : (List.flatMap argB [((97 : Int), (0 : Int), s)]).length = 4 + fillN s.size := by
    simp only [List.flatMap_cons, List.flatMap_nil, List.append_nil]
    have : argB (97, 0, s) = encB s.data.toList := by unfold argB; simp
    rw [this, encB_length, Array.length_toList]; rfl
  omega
theorem all_check (k : Nat) (s : ByteArray) (hk : k ≤ 30) (h : s.size ≤ 200) : checkB 7 3 (allA k s) (allS k) = true := by
  unfold checkB
  have h1 : headOk 7 3 (allA k s).length (allS k).size = true := by rw [allS_size, allA_length]; unfold headOk; simp
  rw [h1, Bool.true_and]
  unfold allS allA
  rw [strB_toList]
  show okArgs ((List.range' 0 k).map numA ++ _) _ = true
  rw [okArgs_u k 0 _ _ (by omega)]
  have : suchB 97 0 s = true := by unfold suchB suchA; simp; omega
  simp [okArgs, this]
theorem all_put (k : Nat) (s : ByteArray) (hk : k ≤ 30) (h : s.size ≤ 200) : putE 7 3 (allA k s) (allS k) = 0 := by
  unfold putE
  rw [all_check k s hk h, if_pos rfl, if_neg]
  rw [all_body]
  have := fillN_lt s.size
  omega
theorem all_bad (k : Nat) (s : ByteArray) : putE 7 3 (allA k s) (sigU k) = 1 := by
  unfold putE checkB
  have h1 : headOk 7 3 (allA k s).length (sigU k).size = false := by rw [sigU_size, allA_length]; unfold headOk; simp
  rw [h1]; rfl
theorem all_head (k : Nat) (s : ByteArray) (hk : k ≤ 30) (h : s.size ≤ 200) : (putB 7 3 (allA k s)).length = 12 + 4 * k + fillN s.size ∧ headE (putB 7 3 (allA k s)) = 0 ∧ headN (putB 7 3 (allA k s)) = (12 + 4 * k + fillN s.size : Nat) := by
  have hb := all_body k s
  have hf := fillN_lt s.size
  have hl : (putB 7 3 (allA k s)).length = 12 + 4 * k + fillN s.size := by unfold putB; rw [List.length_append, List.length_append, le4_length, le4_length, hb]; omega
  have h4 : leV (putB 7 3 (allA k s)) 4 = ((12 + 4 * k + fillN s.size : Nat) : Int) * 65536 + 3 := by
    unfold putB
    have e : 4 * k + (4 + fillN s.size) + 8 = 12 + 4 * k + fillN s.size := by omega
    rw [hb, List.append_assoc, e]
    exact leV_at (le4 7) _ _ (by omega) (by omega)
  have hE : headE (putB 7 3 (allA k s)) = 0 := by
    unfold headE
    rw [if_neg (by omega), h4]
    have hm : fillN s.size % 4 = 0 := by unfold fillN; omega
    rw [if_neg (by omega), if_neg (by omega)]
  exact ⟨hl, hE, by rw [(head_ok hE).2.2, h4]; omega⟩
theorem load_msg (w : World) (g : Nat) (x y z : Value) (h : Blk w g 29 #[x, y, z]) : (Instr.loadAt 29 (.pointer (some ⟨g, 0, none⟩))).run Tryd.prog w = .ok (.agg #[x, y, z]) w := by
  simp only [Instr.loadAt, Instr.sureAddr, Sem.run_bind, Sem.run_pure, Result.andThen_ok]
  exact run_loadVar_row w g 29 29 #[x, y, z] (0, 0) _ h Tryd.underlying29 rfl (by kernel_rfl)
end Go.Proofs.YtihbgkighckiiaaDoor
