/- The contracts of package queue: for a queue that is told by 'QIs' (its room, its bytes, whether it is closed). No condition but that the errors stand in memory. -/
import Derived.Test.YtagjmkgbfbaekaaDoorApp
import Derived.Test.YtagjmkgbfbaekaaDoorKind
import Derived.Deep.RegionLaw
import Derived.Deep.QuietTactic
import Derived.BigQuiet
import Derived.Outline
namespace Go.Proofs.YtagjmkgbfbaekaaDoor
open Go.RowKit

theorem Tryd.infoU8 : (Tryd.prog.info? 5).map (fun i => (i.zero, i.size, i.bytes)) = some (some (.int .u8 0), 1, 1) := by kernel_rfl
theorem step_app {P : Program} {ops : Array Oper} {o : Oper} {a : Act} {w : World} {K : Act → World → Prop} {Q : Exit → Act → World → Prop} {E : Prop} (hgd : o.guard = none) (s x : Operand) (t t2 : TypeId)
    (ho : o.op = .call { callee := .builtin .append, args := #[s, x], argTypes := #[t, t2] }) (v1 v2 : Value) (hs : a.eval s = v1) (hx : a.eval x = v2) (v' : Value) (w' : World)
    (hr : (Builtin.append_ #[t, t2] o.type #[v1, v2]).run P w = .ok v' w') (h : K (a.put o.dst v') w') : if Region.wanted o (yielded ops a.tmps) = true then Oper.wp P o a w K Q else E := by
  have hw : Region.wanted o (yielded ops a.tmps) = true := by simp [Region.wanted, hgd]
  rw [if_pos hw]
  unfold Oper.wp execOp
  simp only [ho, resolve, invoke, builtin, Sem.run_bind, Sem.run_pure, Result.andThen_ok, List.map_toArray, List.map_cons, List.map_nil, hs, hx, hr]
  exact h

/-- The slice value does not lead into block g. -/
def Off (v : Value) (g : Nat) : Prop := ∀ b off n c, v = .slice (some ⟨b, off, none⟩) n c → b ≠ g
/-- A queue at block g. -/
def QIs (w : World) (g : Nat) (most : Int) (bs : List UInt8) (closed : Bool) : Prop :=
  ∃ v, Blk w g 89 #[.int .i64 most, v, .bool closed] ∧ Sl w w.heap.size v (bv bs) ∧ Off v g

section
variable {w w' : World} {B B' size n g : Nat} {v : Value} {xs : List Value}
theorem SlN.only (h : SlN w B size v n xs) (ho : Off v g) (hb : w.grownBy w' (some g)) (hB : B ≤ w.heap.size) : SlN w' B size v n xs := by
  obtain ⟨hl, A, c, rfl, hc, hm, h0, hx⟩ := h
  refine ⟨hl, A, c, rfl, hc, hm, h0, fun hn => ?_⟩
  obtain ⟨b, off, rfl, hb2, hx⟩ := hx hn
  refine ⟨b, off, rfl, hb2, fun j u hu => ?_⟩
  have hne : b ≠ g := ho b off n c rfl
  exact (World.cell?_of_block (hb.block b (by omega) (fun e => hne (by injection e)))).trans (hx j u hu)
theorem Sl.only (h : Sl w B v xs) (ho : Off v g) (hb : w.grownBy w' (some g)) (hB : B ≤ w.heap.size) : Sl w' B v xs := SlN.only h ho hb hB
theorem Off.of_own {base n : Nat} {e : TypeId} (h : w.ownsRow base e 1 v n xs) (hg : g < base) : Off v g := by
  intro b off m c hv hbg
  rcases h.2 with ⟨rfl, _⟩ | ⟨g', cap, cur, rfl, hb, _⟩
  · cases hv
  · cases hv; omega
theorem Off.nil_ : Off (.slice none 0 0) g := fun _ _ _ _ h => by cases h
end

set_option maxHeartbeats 400000 in
theorem qnew_any (most : Int) (w : World) : Calls Tryd.prog 29 #[.int .i64 most] w fun e w' =>
    e = .returned (.pointer (some ⟨w.heap.size, 0, none⟩)) ∧ QIs w' w.heap.size (max 0 (min most 16384)) [] false ∧ Below w.heap.size w w' := by
  by_cases h1 : 16384 < most
  · have e : max 0 (min most 16384) = 16384 := by omega
    have HE := Lib.hid e
    clear e
    go_enter Tryd.func29, Tryd.ntmps29
    go_wp2
    go_ret
    exact ⟨rfl, ⟨_, by rw [HE.out]; exact Blk.new _ _ _, Sl.nil_ _ _, Off.nil_⟩, (Below.refl _ _).alloc (Nat.le_refl _) _⟩
  · by_cases h2 : most < 0
    · have e : max 0 (min most 16384) = 0 := by omega
      have HE := Lib.hid e
      clear e
      go_enter Tryd.func29, Tryd.ntmps29
      go_wp2
      all_goals go_ret
      all_goals exact ⟨rfl, ⟨_, by rw [HE.out]; exact Blk.new _ _ _, Sl.nil_ _ _, Off.nil_⟩, (Below.refl _ _).alloc (Nat.le_refl _) _⟩
    · have e : max 0 (min most 16384) = most := by omega
      have HE := Lib.hid e
      clear e
      by_cases h3 : 0 < most
      · go_enter Tryd.func29, Tryd.ntmps29
        go_wp2
        all_goals go_ret
        all_goals exact ⟨rfl, ⟨_, by rw [HE.out]; exact Blk.new _ _ _, Sl.nil_ _ _, Off.nil_⟩, (Below.refl _ _).alloc (Nat.le_refl _) _⟩
      · obtain rfl : most = 0 := by omega
        go_enter Tryd.func29, Tryd.ntmps29
        go_wp2
        all_goals go_ret
        all_goals exact ⟨rfl, ⟨_, by rw [HE.out]; exact Blk.new _ _ _, Sl.nil_ _ _, Off.nil_⟩, (Below.refl _ _).alloc (Nat.le_refl _) _⟩

/-! ### what the calls answer and leave -/
def putK (most : Int) (bs ys : List UInt8) (closed : Bool) : Nat := if closed then 15 else if most - bs.length < ys.length then 14 else 0
def putB (most : Int) (bs ys : List UInt8) (closed : Bool) : List UInt8 := if closed then bs else if most - bs.length < ys.length then bs else bs ++ ys
def putC (most : Int) (bs ys : List UInt8) (closed : Bool) : Bool := if closed then true else decide (most - bs.length < ys.length)

set_option maxHeartbeats 400000 in
theorem qlen_any (g : Nat) (most : Int) (bs : List UInt8) (closed : Bool) (w : World) (h : QIs w g most bs closed) :
    Calls Tryd.prog 33 #[.pointer (some ⟨g, 0, none⟩)] w fun e w' => e = .returned (.int .i64 bs.length) ∧ w = w' := by
  obtain ⟨v, hg, hs, ho⟩ := h
  have hc := hg.cell 1
  obtain ⟨_, A, c, hv, hcc, _, _, _⟩ := hs
  rw [bv_length] at hv hcc
  subst hv
  simp at hc
  go_enter Tryd.func33, Tryd.ntmps33
  go_wp2
  go_ret
  exact ⟨rfl, rfl⟩

set_option maxHeartbeats 400000 in
theorem qclosed_any (g : Nat) (most : Int) (bs : List UInt8) (closed : Bool) (w : World) (h : QIs w g most bs closed) :
    Calls Tryd.prog 34 #[.pointer (some ⟨g, 0, none⟩)] w fun e w' => e = .returned (.bool closed) ∧ w = w' := by
  obtain ⟨v, hg, hs, ho⟩ := h
  have hc := hg.cell 2
  simp at hc
  go_enter Tryd.func34, Tryd.ntmps34
  go_wp2
  go_ret
  exact ⟨rfl, rfl⟩

set_option maxHeartbeats 400000 in
theorem qclose_any (g : Nat) (most : Int) (bs : List UInt8) (closed : Bool) (w : World) (h : QIs w g most bs closed) :
    Calls Tryd.prog 37 #[.pointer (some ⟨g, 0, none⟩)] w fun e w' => (∃ v, e = .returned v) ∧ QIs w' g most bs true ∧ w.grownBy w' (some g) := by
  obtain ⟨v, hg, hs, ho⟩ := h
  have hc := hg.cell 2
  have hf := hg.frozen 2
  simp at hc
  go_enter Tryd.func37, Tryd.ntmps37
  go_wp2
  go_end0
  have hk := only_set (only_refl w (some g)) 2 (.bool true)
  refine ⟨⟨_, rfl⟩, ⟨v, by simpa using hg.set_ 2 (.bool true), ?_, ho⟩, hk⟩
  simpa [World.setCell] using Sl.only hs ho hk (Nat.le_refl _)

set_option maxRecDepth 100000 in
set_option maxHeartbeats 1600000 in
theorem qput_any (A : Nat → Addr) (g : Nat) (most : Int) (bs : List UInt8) (closed : Bool) (v : Value) (ys : List UInt8) (w : World) (hE : Errs w w.heap.size allErrs A) (h : QIs w g most bs closed) (hs : Sl w w.heap.size v (bv ys))
    (hb : bs.length ≤ 16384) (hm0 : 0 ≤ most) (hm : most ≤ 16384) (hy : ys.length ≤ 140737488355328) :
    Calls Tryd.prog 31 #[.pointer (some ⟨g, 0, none⟩), v] w fun e w' => e = .returned (errV A (putK most bs ys closed)) ∧ QIs w' g most (putB most bs ys closed) (putC most bs ys closed) ∧ w.grownBy w' (some g) := by
  obtain ⟨i, hi, hz, hs1, hby⟩ := info_parts Tryd.infoU8
  have c14 : w.cell? ⟨13, 0, none⟩ = some (.iface 120 (.pointer (some (A 14)))) := hE.var (mem_all 14 (by omega) (by omega))
  have c15 : w.cell? ⟨14, 0, none⟩ = some (.iface 120 (.pointer (some (A 15)))) := hE.var (mem_all 15 (by omega) (by omega))
  have e14 : 13 ≠ g := by
    rintro rfl
    obtain ⟨u, hg, _⟩ := h
    have := hg.cell 0
    rw [c14] at this
    simp at this
  have HQ := Lib.hid h
  obtain ⟨u, hg, hu, ho⟩ := h
  have hg0 := hg.cell 0
  have hg1 := hg.cell 1
  have hg2 := hg.cell 2
  have hf1 := hg.frozen 1
  have hf2 := hg.frozen 2
  simp at hg0 hg1 hg2
  obtain ⟨ul, UA, uc, huv, huc, hum, hu0, hux⟩ := hu
  rw [bv_length] at huv huc hux ul
  obtain ⟨yl, YA, yc, hyv, hyc, hym, hy0, hyx⟩ := hs
  rw [bv_length] at hyv hyc hyx yl
  subst huv; subst hyv
  rcases closed
  · by_cases hroom : most - bs.length < ys.length
    · have HP : Hid (putK most bs ys false = 14 ∧ putB most bs ys false = bs ∧ putC most bs ys false = true) := ⟨by simp [putK, hroom], by simp [putB, hroom], by simp [putC, hroom]⟩
      have hbv : Hid (Sl w w.heap.size (.slice UA bs.length uc) (bv bs)) := ⟨by rw [bv_length]; omega, UA, uc, by rw [bv_length], by rw [bv_length]; exact huc, hum, hu0, by rw [bv_length]; exact hux⟩
      have HO := Lib.hid ho
      clear ul hux hu0 yl hyx hy0 hE ho
      go_enter Tryd.func31, Tryd.ntmps31
      go_wp2
      go_quiet (fail)
      all_goals (try go_wp2)
      all_goals go_ret
      rw [HP.out.1, HP.out.2.1, HP.out.2.2]
      have hk := only_set (only_drewN (only_refl w (some g)) nq) 2 (.bool true)
      refine ⟨rfl, ⟨_, by simpa using (hg.drewN nq).set_ 2 (.bool true), ?_, HO.out⟩, hk⟩
      simpa [World.setCell] using Sl.only hbv.out HO.out hk (Nat.le_refl _)
    · have HP : Hid (putK most bs ys false = 0 ∧ putB most bs ys false = bs ++ ys ∧ putC most bs ys false = false) := ⟨by simp [putK, hroom], by simp [putB, hroom], by simp [putC, hroom]⟩
      have hap : ∀ N : Nat, ∃ v' w', (Builtin.append_ #[31, 31] 31 #[.slice UA bs.length bs.length, .slice YA ys.length yc]).run Tryd.prog (w.drewN N).drew = .ok v' w' ∧
          Sl w' w'.heap.size v' (bv (bs ++ ys)) ∧ Off v' g ∧ Below w.heap.size w w' := by
        intro N
        have hd : SlN (w.drewN N).drew w.heap.size 1 (.slice UA bs.length bs.length) bs.length (bv bs) :=
          ⟨by rw [bv_length]; omega, UA, bs.length, rfl, Nat.le_refl _, by omega, fun h => by have := hu0 h; omega, hux⟩
        have hy' : SlN (w.drewN N).drew w.heap.size 1 (.slice YA ys.length yc) ys.length (bv ys) := ⟨by rw [bv_length]; omega, YA, yc, rfl, hyc, hym, hy0, hyx⟩
        rcases Nat.eq_zero_or_pos ys.length with h0 | hpos
        · have hys : ys = [] := List.eq_nil_of_length_eq_zero h0
          subst hys
          refine ⟨_, _, run_app_none Tryd.underlying31 hi (Nat.le_refl _), ?_, ?_, below_drewN (Below.refl _ _) (N + 1)⟩
          · rw [List.append_nil]; exact hd.toSl
          · intro b off n' c' hv; cases hv; exact ho _ _ _ _ rfl
        · obtain ⟨v', w', hr, hown, hbel⟩ := run_app_full (ty := 31) Tryd.underlying31 hi hz hs1 rfl hd hy' (by omega) ⟨by omega, .inr hby⟩
          refine ⟨v', w', hr, ?_, Off.of_own hown hg.lt, (below_drewN (Below.refl _ _) (N + 1)).trans hbel⟩
          rw [bv_append]; exact Sl.of_own hown
      have HA := Lib.hid hap
      clear hap ul hux hu0 yl hyx hy0 hE ho
      go_enter Tryd.func31, Tryd.ntmps31
      go_wp2
      go_quiet (fail)
      go_wp2_with fail
      obtain ⟨v', w', hr, hsl, hoff, hbel⟩ := HA.out nq
      obtain ⟨A', n', c', rfl⟩ : ∃ A' n' c', v' = .slice A' n' c' := by obtain ⟨_, A', c', h, _⟩ := hsl; exact ⟨_, _, _, h⟩
      have HR := Lib.hid hr
      have HS := Lib.hid (And.intro hsl (And.intro hoff hbel))
      have k1 : w'.cell? ⟨g, 1, none⟩ = some (.slice UA bs.length uc) := (hbel.cell (p := ⟨g, 1, none⟩) hg.lt).trans hg1
      have k2 : w'.frozen? ⟨g, 1, none⟩ = false := (hbel.frozen (p := ⟨g, 1, none⟩) hg.lt).trans hf1
      clear hr hsl hoff
      have fin : ∀ w2, w2 = w'.setCell ⟨g, 1, none⟩ (.slice A' n' c') → QIs w2 g most (bs ++ ys) false ∧ w.grownBy w2 (some g) := by
        rintro w2 rfl
        have hk := only_set (only_of_below hbel (some g)) 1 (.slice A' n' c')
        refine ⟨⟨_, by simpa using (hg.below hbel hg.lt).set_ 1 (.slice A' n' c'), ?_, HS.out.2.1⟩, hk⟩
        simpa [World.setCell] using Sl.only HS.out.1 HS.out.2.1 (only_set (only_refl w' (some g)) 1 (.slice A' n' c')) (Nat.le_refl _)
      have HF := Lib.hid fin
      clear fin
      rcases UA with _ | ua
      · go_region_law (refine step_app rfl (.tmp 44) (.tmp 45) 31 31 rfl _ _ (by simp [Act.eval, Act.put]) (by simp [Act.eval, Act.put]) (.slice A' n' c') w' HR.out ?_)
        all_goals go_wp2
        all_goals go_ret
        all_goals rw [HP.out.1, HP.out.2.1, HP.out.2.2]
        all_goals exact ⟨rfl, HF.out _ rfl⟩
      · go_region_law (refine step_app rfl (.tmp 44) (.tmp 45) 31 31 rfl _ _ (by simp [Act.eval, Act.put]) (by simp [Act.eval, Act.put]) (.slice A' n' c') w' HR.out ?_)
        all_goals go_wp2
        all_goals go_ret
        all_goals rw [HP.out.1, HP.out.2.1, HP.out.2.2]
        all_goals exact ⟨rfl, HF.out _ rfl⟩
  · have HP : Hid (putK most bs ys true = 15 ∧ putB most bs ys true = bs ∧ putC most bs ys true = true) := ⟨by simp [putK], by simp [putB], by simp [putC]⟩
    go_enter Tryd.func31, Tryd.ntmps31
    go_wp2
    go_ret
    rw [HP.out.1, HP.out.2.1, HP.out.2.2]
    exact ⟨rfl, HQ.out, only_refl _ _⟩
end Go.Proofs.YtagjmkgbfbaekaaDoor
