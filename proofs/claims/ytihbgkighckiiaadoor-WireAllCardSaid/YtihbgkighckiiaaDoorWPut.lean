/- wire.Put. No condition but that the errors stand in memory, and that there are not too many arguments. -/
import Derived.Test.YtihbgkighckiiaaDoorCheck
import Derived.Test.YtihbgkighckiiaaDoorWordL
import Derived.Test.YtihbgkighckiiaaDoorRef1
import Derived.Deep.RegionLaw
import Derived.Deep.CutBlock
import Derived.Deep.CutRange
namespace Go.Proofs.YtihbgkighckiiaaDoor
open Go.RowKit
set_option maxRecDepth 100000

/-- An argument's bytes. -/
def argB (x : ArgD) : List UInt8 := if x.1 = 115 then encB (x.2.2.data.toList ++ [0]) else if x.1 = 97 then encB x.2.2.data.toList else le4 (x.2.1 % 4294967296)
def bodyB (l : List ArgD) : List UInt8 := l.flatMap argB
theorem bodyB_snoc (l : List ArgD) (i : Nat) (h : i < l.length) : bodyB (l.take (i + 1)) = bodyB (l.take i) ++ argB l[i] := by
  rw [List.take_succ_eq_append_getElem h, bodyB, List.flatMap_append]; simp [bodyB]
def putE (o p : Int) (l : List ArgD) (sig : ByteArray) : Nat := if checkB o p l sig then (if 4096 < (bodyB l).length + 8 then 4 else 0) else 1
def putB (o p : Int) (l : List ArgD) : List UInt8 := le4 o ++ le4 ((((bodyB l).length + 8 : Nat) : Int) * 65536 + p) ++ bodyB l
def putR (o p : Int) (l : List ArgD) (sig : ByteArray) : List UInt8 := if putE o p l sig = 0 then putB o p l else []
theorem putE_le (o p : Int) (l : List ArgD) (sig : ByteArray) : putE o p l sig ≤ 16 := by unfold putE; split; split <;> omega; omega
theorem own_mono {w : World} {B B' n s : Nat} {e : TypeId} {v : Value} {xs : List Value} (h : w.ownsRow B e s v n xs) (hB : B' ≤ B) : w.ownsRow B' e s v n xs := by
  rcases h.2 with ⟨h1, h2⟩ | ⟨g, cap, cur, h1, h2, h3⟩
  · exact ⟨h.1, .inl ⟨h1, h2⟩⟩
  · exact ⟨h.1, .inr ⟨g, cap, cur, h1, by omega, h3⟩⟩
/-- What an argument that is such may be. -/
theorem such_bounds {k z : Int} {s : ByteArray} (h : suchB k z s = true) : ((k = 115 ∨ k = 97) → s.size ≤ 200) ∧ (k ≠ 115 → k ≠ 97 → -2147483648 ≤ z ∧ z ≤ 4294967295) := by
  unfold suchB suchI suchU suchN suchS suchA at h
  refine ⟨fun hk => ?_, fun h1 h2 => ?_⟩
  · rcases hk with rfl | rfl
    · simp at h; omega
    · simp at h; omega
  · split at h
    · simp at h; omega
    · split at h
      · simp at h; omega
      · split at h
        · simp at h; omega
        · cases h
theorem okArgs_at : ∀ (l : List ArgD) (s : List UInt8), okArgs l s = true → ∀ i (hi : i < l.length), suchB l[i].1 l[i].2.1 l[i].2.2 = true
  | [], _, _, i, hi => by simp at hi
  | x :: l, [], h, _, _ => by simp [okArgs] at h
  | x :: l, c :: s, h, i, hi => by
    simp only [okArgs, Bool.and_eq_true] at h
    rcases i with _ | i
    · exact h.1.2
    · exact okArgs_at l s h.2 i (by simpa using hi)
theorem argB_le {x : ArgD} (h : suchB x.1 x.2.1 x.2.2 = true) : (argB x).length ≤ 210 := by
  have hb := (such_bounds h).1
  have hl : x.2.2.data.toList.length = x.2.2.size := by rw [Array.length_toList]; rfl
  unfold argB
  split
  · have := hb (.inl ‹_›)
    have := fillN_lt (x.2.2.data.toList ++ [0]).length
    rw [encB_length]; simp only [List.length_append, List.length_singleton] at *; omega
  · split
    · have := hb (.inr ‹_›)
      have := fillN_lt (x.2.2.data.toList).length
      rw [encB_length]; omega
    · simp [le4_length]
theorem bodyB_le (l : List ArgD) (h : ∀ i (hi : i < l.length), suchB l[i].1 l[i].2.1 l[i].2.2 = true) (i : Nat) (hi : i ≤ l.length) : (bodyB (l.take i)).length ≤ i * 210 := by
  induction i with
  | zero => simp [bodyB]
  | succ i ih =>
    rw [bodyB_snoc l i hi, List.length_append]
    have := ih (by omega)
    have := argB_le (h i hi)
    omega

theorem step_app {P : Program} {ops : Array Oper} {o : Oper} {a : Act} {w : World} {K : Act → World → Prop} {Q : Exit → Act → World → Prop} {E : Prop} (hgd : o.guard = none) (s x : Operand) (t t2 : TypeId)
    (ho : o.op = .call { callee := .builtin .append, args := #[s, x], argTypes := #[t, t2] }) (v1 v2 : Value) (hs : a.eval s = v1) (hx : a.eval x = v2) (R : Value → World → Prop)
    (hrun : ∃ v' w', (Builtin.append_ #[t, t2] o.type #[v1, v2]).run P w = .ok v' w' ∧ R v' w')
    (h : ∀ v' w', R v' w' → K (a.put o.dst v') w') : if Region.wanted o (yielded ops a.tmps) = true then Oper.wp P o a w K Q else E := by
  have hw : Region.wanted o (yielded ops a.tmps) = true := by simp [Region.wanted, hgd]
  rw [if_pos hw]
  obtain ⟨v', w', hr, hR⟩ := hrun
  unfold Oper.wp execOp
  simp only [ho, resolve, invoke, builtin, Sem.run_bind, Sem.run_pure, Result.andThen_ok, List.map_toArray, List.map_cons, List.map_nil, hs, hx, hr]
  exact h v' w' hR
theorem step_call {P : Program} {ops : Array Oper} {o : Oper} {a : Act} {w : World} {K : Act → World → Prop} {Q : Exit → Act → World → Prop} {E : Prop} {R : Value → World → Prop} (hgd : o.guard = none) (f : FuncId) (args : Array Value)
    (hr : (execOp a.eval o).run P w = .ok (.enter f args) w) (hc : Calls P f args w fun e w' => ∃ v, e = .returned v ∧ R v w') (h : ∀ v w', R v w' → K (a.put o.dst v) w') :
    if Region.wanted o (yielded ops a.tmps) = true then Oper.wp P o a w K Q else E := by
  have hw : Region.wanted o (yielded ops a.tmps) = true := by simp [Region.wanted, hgd]
  rw [if_pos hw]
  unfold Oper.wp
  rw [hr]
  exact hc.mono fun e w' ⟨v, he, hR⟩ => by subst he; exact h v w' hR
/-- The message's block, the body's bytes, whatever stands between. -/
def JP (w0 : World) (g : Nat) (o p : Int) (va v : Value) (bs : List UInt8) (w : World) : Prop := Sl w w.heap.size v (bv bs) ∧ Blk w g 29 #[.int .i64 o, .int .i64 p, va] ∧ Below w0.heap.size w0 w
section
variable {w0 w w' : World} {g : Nat} {o p : Int} {va v : Value} {bs : List UInt8}
theorem JP.below (h : JP w0 g o p va v bs w) (hb : Below w.heap.size w w') : JP w0 g o p va v bs w' := ⟨(h.1.below hb).more hb.size, h.2.1.below hb h.2.1.lt, h.2.2.trans (hb.mono h.2.2.size)⟩
theorem JP.drew (h : Hid (JP w0 g o p va v bs w)) : Hid (JP w0 g o p va v bs w.drew) := ⟨h.out.1, h.out.2.1, below_drewN h.out.2.2 1⟩
theorem jp_put1 (x : Int) (hj : Hid (JP w0 g o p va v bs w)) (h0 : 0 ≤ x) (h1 : x < 4294967296) :
    Calls Tryd.prog 41 #[.slice none 0 0, .int .u32 x] w fun e w' => ∃ v', e = .returned v' ∧ Hid (JP w0 g o p va v bs w') ∧ Hid (w'.ownsRow w0.heap.size 5 1 v' 4 (bv (le4 x))) ∧ w'.cell? ⟨g, 0, none⟩ = some (.int .i64 o) ∧ w'.cell? ⟨g, 1, none⟩ = some (.int .i64 p) :=
  (put_any (.slice none 0 0) [] x w (Sl.nil_ _ _) (by simp) h0 h1).mono fun _ _ ⟨v', he, hown, hb⟩ => ⟨v', he, hj.out.below hb, own_mono hown hj.out.2.2.size, (hj.out.below hb).2.1.cell 0, (hj.out.below hb).2.1.cell 1⟩
theorem jp_app {v8 : Value} {X : List UInt8} (ty : TypeId) (hj : Hid (JP w0 g o p va v bs w)) (ho : Hid (w.ownsRow w0.heap.size 5 1 v8 8 (bv X))) (hb : bs.length ≤ 100000) :
    ∃ v' w', (Builtin.append_ #[30, 30] ty #[v8, v]).run Tryd.prog w = .ok v' w' ∧ Hid (w'.ownsRow w0.heap.size 5 1 v' (8 + bs.length) (bv X ++ bv bs) ∧ Below w0.heap.size w0 w') := by
  obtain ⟨i8, hi8, hz8, hs18, hby8⟩ := info_parts Tryd.infoU8
  have hs' := hj.out.1
  unfold Sl at hs'
  rw [bv_length] at hs'
  have hs2 := hs'
  obtain ⟨_, A2, c2, rfl, _⟩ := hs2
  obtain ⟨v', w', hr, h2, h3⟩ := run_app_own (ty := ty) Tryd.underlying30 hi8 hz8 hs18 rfl ho.out hs' (bv_one _) hj.out.2.2.size ⟨by omega, .inr hby8⟩
  exact ⟨v', w', hr, h2, hj.out.2.2.trans h3⟩
theorem jp_put2 (x y : Int) {v1 : Value} (hj : Hid (JP w0 g o p va v bs w)) (ho : Hid (w.ownsRow w0.heap.size 5 1 v1 4 (bv (le4 x)))) (h0 : 0 ≤ y) (h1 : y < 4294967296) :
    Calls Tryd.prog 41 #[v1, .int .u32 y] w fun e w' => ∃ v', e = .returned v' ∧ Hid (JP w0 g o p va v bs w') ∧ Hid (w'.ownsRow w0.heap.size 5 1 v' 8 (bv (le4 x ++ le4 y))) ∧ w'.cell? ⟨g, 0, none⟩ = some (.int .i64 o) ∧ w'.cell? ⟨g, 1, none⟩ = some (.int .i64 p) :=
  (put_any v1 (le4 x) y w (Sl.of_own ho.out) (by simp [le4_length]) h0 h1).mono fun _ _ ⟨v', he, hown, hb⟩ => ⟨v', he, hj.out.below hb, own_mono hown hj.out.2.2.size, (hj.out.below hb).2.1.cell 0, (hj.out.below hb).2.1.cell 1⟩
end

def PutLoop (w : World) (g : Nat) (o p : Int) (va : Value) (l : List ArgD) (v i : Value) (wr : World) : Prop :=
  ∃ k : Nat, k ≤ l.length ∧ i = .int .i64 k ∧ wr.ownsRow w.heap.size 5 1 v (bodyB (l.take k)).length (bv (bodyB (l.take k))) ∧ Blk wr g 29 #[.int .i64 o, .int .i64 p, va] ∧ Below w.heap.size w wr
def WPutPost (A : Nat → Addr) (o p : Int) (l : List ArgD) (sig : ByteArray) (w : World) (e : Ending) (w' : World) : Prop :=
  ∃ v, e = .returned (.tuple #[v, errV A (putE o p l sig)]) ∧ Sl w' w'.heap.size v (bv (putR o p l sig)) ∧ Below w.heap.size w w'
theorem wput_err {A : Nat → Addr} {o p : Int} {l : List ArgD} {sig : ByteArray} {w w' : World} {k : Nat} (h : putE o p l sig = k) (hk : k ≠ 0) (hb : Below w.heap.size w w') :
    WPutPost A o p l sig w (.returned (.tuple #[.slice none 0 0, .iface 121 (.pointer (some (A k)))])) w' := by
  refine ⟨_, by rw [h, errV_pos A (by omega)], ?_, hb⟩
  unfold putR; rw [h, if_neg hk]; exact Sl.nil_ _ _

set_option maxHeartbeats 6400000 in
theorem wput_any (A : Nat → Addr) (S : List Nat) (h1 : 1 ∈ S) (h4 : 4 ∈ S) (o p : Int) (v : Value) (l : List ArgD) (sig : ByteArray) (w : World) (hE : Errs w w.heap.size S A) (hv : ArgsIs w v l) (hF : Fit l) (hs : sig.size ≤ 140737488351232) (hl : l.length ≤ 100) :
    Calls Tryd.prog 20 #[.agg #[.int .i64 o, .int .i64 p, v], .string sig] w (WPutPost A o p l sig w) := by
  have HE := Lib.hid hE
  have HF := Lib.hid hF
  have HV := Lib.hid hv
  obtain ⟨_, Ad, c, rfl, hc, hm, _, hx⟩ := hv
  obtain ⟨n, hn⟩ : ∃ n, n = l.length := ⟨_, rfl⟩
  rw [← hn] at hc hx hl HV ⊢
  have HX := Lib.hid hx
  have HN := Lib.hid hn
  unfold maxLen at hm
  have hz1 : Below w.heap.size w (w.alloc (.cells #[.int .i64 o, .int .i64 p, .slice Ad n c] 29)) := (Below.refl _ _).alloc (Nat.le_refl _) _
  have hblk0 : Hid (Blk (w.alloc (.cells #[.int .i64 o, .int .i64 p, .slice Ad n c] 29)) w.heap.size 29 #[.int .i64 o, .int .i64 p, .slice Ad n c]) := Blk.new _ _ _
  have HZ := Lib.hid hz1
  obtain ⟨g, hg⟩ : ∃ g, g = w.heap.size := ⟨_, rfl⟩
  rw [← hg] at hblk0
  have HG := Lib.hid hg
  have hgw : w.heap.size ≤ g := by omega
  clear hg hn hE hx hz1
  cases hcb : checkB o p l sig with
  | false =>
    have hce : checkE o p l sig = 1 := by unfold checkE; rw [hcb]; rfl
    have hpe : Hid (putE o p l sig = 1) := by show _ = _; unfold putE; rw [hcb]; rfl
    have HCE := Lib.hid hce
    clear hcb hce
    go_enter Tryd.func20, Tryd.ntmps20
    go_wp2_with fail
    refine (check_any A S h1 o p _ l sig _ (HE.out.to HZ.out HZ.out.size) (HV.out.below HZ.out) HF.out hs).mono ?_
    rintro e w1 ⟨rfl, hb1⟩
    rw [HCE.out, errV_pos A (by omega)]
    have HB1 := Lib.hid (HZ.out.trans (hb1.mono HZ.out.size))
    clear hb1
    go_wp2
    go_ret2
    exact wput_err hpe.out (by omega) HB1.out
  | true =>
    have hce : checkE o p l sig = 0 := by unfold checkE; rw [hcb]; rfl
    have hall := okArgs_at l sig.data.toList (by unfold checkB at hcb; simp only [Bool.and_eq_true] at hcb; exact hcb.2)
    have hop : 1 ≤ o ∧ o ≤ 4294967295 ∧ 0 ≤ p ∧ p < 65536 := by unfold checkB headOk at hcb; simp at hcb; omega
    have hpe : putE o p l sig = if 4096 < (bodyB l).length + 8 then 4 else 0 := by unfold putE; rw [hcb]; rfl
    have HCE := Lib.hid hce
    have HALL := Lib.hid hall
    have HPE := Lib.hid hpe
    have HBL := Lib.hid (bodyB_le l hall)
    obtain ⟨o1, o2, p1, p2⟩ := hop
    clear hcb hce hall hpe
    go_enter Tryd.func20, Tryd.ntmps20
    go_wp2_with fail
    rw [← HG.out]
    have HA1 := Lib.hid (HV.out.below HZ.out)
    generalize (w.alloc (.cells #[.int .i64 o, .int .i64 p, .slice Ad n c] 29)) = w0 at hblk0 HZ HA1 ⊢
    refine (check_any A S h1 o p _ l sig w0 (HE.out.to HZ.out HZ.out.size) HA1.out HF.out hs).mono ?_
    rintro e w1 ⟨rfl, hb1⟩
    rw [HCE.out, errV_zero]
    have HB1 := Lib.hid (HZ.out.trans (hb1.mono HZ.out.size))
    have HBK := Lib.hid (hblk0.out.below hb1 hblk0.out.lt)
    have gc2 : w1.cell? ⟨g, 2, none⟩ = some (.slice Ad n c) := HBK.out.cell 2
    clear hb1
    go_wp2_with fail
    go_loopw [7, 20] (PutLoop w g o p (.slice Ad n c) l) (fun _ a _ => n - (intOf a).toNat)
    case atStart => exact ⟨0, Nat.zero_le _, rfl, World.ownsRow_nil _ _ _ _, HBK.out, HB1.out⟩
    case round =>
      clear gc2
      obtain ⟨i, hi, rfl, hown, hbk, hb⟩ := hrel
      have hin : i ≤ n := by rw [HN.out]; exact hi
      have HB := Lib.hid hb
      have HK := Lib.hid hbk
      have HO := Lib.hid hown
      have hbl := HBL.out i hi
      clear hb hbk hown hi
      by_cases hlt : i < n
      · have hil : i < l.length := by rw [← HN.out]; exact hlt
        obtain ⟨b, off, rfl, hB, hx⟩ := HX.out (by omega)
        obtain ⟨t0, t1, t2⟩ := argCells_at l i hil
        have hsn := bodyB_snoc l i hil
        have hbd := such_bounds (HALL.out i hil)
        obtain ⟨k, hk⟩ : ∃ k, k = l[i].1 := ⟨_, rfl⟩
        obtain ⟨z, hz⟩ : ∃ k, k = l[i].2.1 := ⟨_, rfl⟩
        obtain ⟨s, hs2⟩ : ∃ k, k = l[i].2.2 := ⟨_, rfl⟩
        have harg : argB l[i] = if k = 115 then encB (s.data.toList ++ [0]) else if k = 97 then encB s.data.toList else le4 (z % 4294967296) := by unfold argB; rw [← hk, ← hz, ← hs2]
        rw [← hk] at t0 hbd
        rw [← hz] at t1 hbd
        rw [← hs2] at t2 hbd
        rw [harg] at hsn
        have g0 : wr.cell? ⟨b, off + i * 3, none⟩ = some (.int .u8 k) := (HB.out.cell (p := ⟨b, off + i * 3, none⟩) hB).trans (hx _ _ t0)
        have g1 : wr.cell? ⟨b, off + i * 3 + 1, none⟩ = some (.int .i64 z) := (HB.out.cell (p := ⟨b, off + i * 3 + 1, none⟩) hB).trans (hx _ _ t1)
        have g2 : wr.cell? ⟨b, off + i * 3 + 2, none⟩ = some (.string s) := (HB.out.cell (p := ⟨b, off + i * 3 + 2, none⟩) hB).trans (hx _ _ t2)
        have HSN := Lib.hid hsn
        have HBD := Lib.hid hbd
        clear t0 t1 t2 hx hk hz hs2 hsn hbd harg
        have hbz : Below wr.heap.size wr (wr.alloc (.cells #[.int .u8 k, .int .i64 z, .string s] 26)) := (Below.refl _ _).alloc (Nat.le_refl _) _
        have HO2 := Lib.hid (HO.out.alloc (.cells #[.int .u8 k, .int .i64 z, .string s] 26))
        have HK2 := Lib.hid (HK.out.below hbz HK.out.lt)
        have HB2 := Lib.hid (HB.out.alloc HB.out.size (.cells #[.int .u8 k, .int .i64 z, .string s] 26))
        have HSL := Lib.hid (Sl.of_own HO2.out)
        clear hbz
        by_cases h115 : k = 115
        · subst h115
          have hz2 := (HBD.out).1 (.inl rfl)
          have hsn := HSN.out
          rw [if_pos rfl] at hsn
          have HSN2 := Lib.hid hsn
          clear hsn
          go_wp2_with fail
          refine (putText_any _ _ s _ HSL.out (by omega) (by omega)).mono ?_
          rintro e w3 ⟨v3, rfl, hown3, hb3⟩
          have HO3 := Lib.hid (own_mono hown3 HB2.out.size)
          have HK3 := Lib.hid (HK2.out.below hb3 HK2.out.lt)
          have HB3 := Lib.hid (HB2.out.trans (hb3.mono HB2.out.size))
          clear hown3 hb3
          go_wp2_with fail
          go_roundw
          case rel => exact ⟨i + 1, by rw [← HN.out]; omega, by go_num, by rw [HSN2.out, List.length_append]; exact HO3.out, HK3.out, HB3.out⟩
          case measure => simp [intOf]; omega
        · by_cases h97 : k = 97
          · subst h97
            have hz2 := (HBD.out).1 (.inr rfl)
            have hsn := HSN.out
            rw [if_neg h115, if_pos rfl] at hsn
            have HSN2 := Lib.hid hsn
            clear hsn h115
            go_wp2_with fail
            refine (putList_any _ _ s _ HSL.out (by omega) (by omega)).mono ?_
            rintro e w3 ⟨v3, rfl, hown3, hb3⟩
            have HO3 := Lib.hid (own_mono hown3 HB2.out.size)
            have HK3 := Lib.hid (HK2.out.below hb3 HK2.out.lt)
            have HB3 := Lib.hid (HB2.out.trans (hb3.mono HB2.out.size))
            clear hown3 hb3
            go_wp2_with fail
            go_roundw
            case rel => exact ⟨i + 1, by rw [← HN.out]; omega, by go_num, by rw [HSN2.out, List.length_append]; exact HO3.out, HK3.out, HB3.out⟩
            case measure => simp [intOf]; omega
          · have d1 : (k == 115) = false := by simpa using h115
            have d2 : (k == 97) = false := by simpa using h97
            obtain ⟨z1, z2⟩ := (HBD.out).2 h115 h97
            have hsn := HSN.out
            rw [if_neg h115, if_neg h97] at hsn
            have HSN2 := Lib.hid hsn
            clear hsn h115 h97
            go_wp2_with fail
            refine (put_any _ _ (z % 4294967296) _ HSL.out (by omega) (by omega) (by omega)).mono ?_
            rintro e w3 ⟨v3, rfl, hown3, hb3⟩
            have HO3 := Lib.hid (own_mono hown3 HB2.out.size)
            have HK3 := Lib.hid (HK2.out.below hb3 HK2.out.lt)
            have HB3 := Lib.hid (HB2.out.trans (hb3.mono HB2.out.size))
            clear hown3 hb3
            go_wp2_with fail
            go_roundw
            case rel => exact ⟨i + 1, by rw [← HN.out]; omega, by go_num, by rw [HSN2.out, List.length_append]; exact HO3.out, HK3.out, HB3.out⟩
            case measure => simp [intOf]; omega
      · obtain rfl : i = n := by omega
        have htk : l.take i = l := List.take_of_length_le (by rw [← HN.out]; exact Nat.le_refl _)
        rw [htk] at HO hbl
        obtain ⟨q, hq⟩ : ∃ q, q = (bodyB l).length := ⟨_, rfl⟩
        have hown := HO.out
        rw [← hq] at hown hbl
        obtain ⟨A3, c3, rfl, hc3, hcm3⟩ := own_form hown
        unfold maxLen at hcm3
        have hpe := HPE.out
        rw [← hq] at hpe
        have HJ : Hid (JP w g o p (.slice Ad i c) (.slice A3 q c3) (bodyB l) wr) := ⟨by have := Sl.of_own hown; exact this, HK.out, HB.out⟩
        have HQ := Lib.hid hq
        clear htk hq hown HO HALL HPE HBL
        by_cases hbig : 4096 < q + 8
        · have d1 : decide (4096 < (q : Int) + 8) = true := by simp; omega
          rw [if_pos hbig] at hpe
          have HPE2 := Lib.hid hpe
          have c4 : wr.cell? ⟨2, 0, none⟩ = some (.iface 121 (.pointer (some (A 4)))) := (HE.out.to HB.out HB.out.size).var h4
          clear hpe hbig
          go_wp2_with fail
          go_quiet (fail)
          all_goals (try go_wp2)
          all_goals go_ret2
          all_goals exact wput_err HPE2.out (by omega) (below_drewN HB.out _)
        · have d1 : decide (4096 < (q : Int) + 8) = false := by simp; omega
          rw [if_neg hbig] at hpe
          have HPE2 := Lib.hid hpe
          have HJ1 := JP.drew HJ
          have gc0 : wr.cell? ⟨g, 0, none⟩ = some (.int .i64 o) := HK.out.cell 0
          have gc1 : wr.cell? ⟨g, 1, none⟩ = some (.int .i64 p) := HK.out.cell 1
          have hq8 : q + 8 ≤ 4096 := by omega
          obtain ⟨i8, hi8, hz8, hs18, hby8⟩ := info_parts Tryd.infoU8
          have w1' : IntKind.u32.wrap o = o := IntWalk.u32_in _ (by omega)
          have w2' : IntKind.i64.wrap (((q : Int) + 8) * 65536) = ((q : Int) + 8) * 65536 := IntWalk.i64_in _ (by omega)
          have w3' : IntKind.i64.wrap (((q : Int) + 8) * 65536 + p) = ((q : Int) + 8) * 65536 + p := IntWalk.i64_in _ (by omega)
          have w4' : IntKind.u32.wrap (((q : Int) + 8) * 65536 + p) = ((q : Int) + 8) * 65536 + p := IntWalk.u32_in _ (by omega)
          clear hpe hbig hbl hin
          go_wp2_with fail
          go_region_law (first
            | (refine step_app rfl (.tmp 60) (.tmp 61) _ _ rfl _ _ rfl rfl _ (jp_app _ (by assumption) (by assumption) (by rw [← HQ.out]; omega)) ?_
               intro v4 w4 hR4)
            | (refine step_call (o := ⟨some 53, _, _, _, _, _⟩) rfl 41 _ ?_ (jp_put1 o (by assumption) (by omega) (by omega)) ?_
               · kernel_rfl
               rintro v' w' ⟨hj, ho, gc0', gc1'⟩)
            | (refine step_call (o := ⟨some 60, _, _, _, _, _⟩) rfl 41 _ ?_ (jp_put2 o (((q : Int) + 8) * 65536 + p) (by assumption) (by assumption) (by omega) (by omega)) ?_
               · kernel_rfl
               rintro v' w' ⟨hj, ho, gc0', gc1'⟩))
          all_goals
            go_wp2_with fail
            go_ret2
            refine ⟨_, by rw [HPE2.out]; rfl, ?_, hR4.out.2⟩
            have e : putR o p l sig = le4 o ++ le4 (((q : Int) + 8) * 65536 + p) ++ bodyB l := by
              unfold putR putB
              rw [HPE2.out, if_pos rfl, ← HQ.out]
              rfl
            rw [e, bv_append]
            exact Sl.of_own hR4.out.1
end Go.Proofs.YtihbgkighckiiaaDoor
