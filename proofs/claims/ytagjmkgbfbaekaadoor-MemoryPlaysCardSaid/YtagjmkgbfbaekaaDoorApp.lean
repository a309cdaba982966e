/- append, whatever the room: onto a slice that is cut at its length, onto a row of the call's own; what is appended is a slice or a string. Bytes up to a little over 2^47. No condition. -/
import Derived.Test.YtagjmkgbfbaekaaDoorBase
import Derived.OwnWalk
import Derived.Laws.NewBlocks
import Derived.Laws.BytesArg
namespace Go.Proofs.YtagjmkgbfbaekaaDoor
open Go.RowKit

theorem nextcap_fits {need old : Nat} (h : old < need) (hb : need ≤ 140737488500000) : Builtin.nextslicecap need old ≤ 281474976710656 := by
  unfold Builtin.nextslicecap
  split
  · omega
  · split
    · omega
    · rw [growBy_four]
      repeat' split
      all_goals omega

section
variable {P : Program} {w : World} {t ty e : TypeId} {i : TypeInfo} {z : Value}
theorem add_of_lit (b off j : Nat) : (⟨b, off, none⟩ : Addr).add j = ⟨b, off + j, none⟩ := by unfold Addr.add; split <;> simp_all
/-- What a new array behind an append owns. -/
theorem owns_new (n : Nat) (xs : List Value) (c : Nat) (hl : xs.length = n) (hn : n ≤ c) (hc : c ≤ maxLen) (hz1 : z.cells.size = 1) (nc : Array Value) (hnc : nc = xs.toArray ++ Builtin.zeroCells z.cells (c - n)) :
    (w.drew.alloc (.cells nc e)).ownsRow w.heap.size e 1 (.slice (some ⟨w.heap.size, 0, none⟩) n c) n xs ∧ w.grownBy (w.drew.alloc (.cells nc e)) none := by
  subst hnc
  refine ⟨⟨by simpa using hl, .inr ⟨w.heap.size, c, _, rfl, Nat.le_refl _, heap_alloc_new w.drew _, hn, hc, ?_, ?_⟩⟩, ⟨rfl, rfl, rfl, by simp, fun k hk _ => Below.heap_alloc w.drew _ k hk⟩⟩
  · simp only [Array.size_append, List.size_toArray, size_zeroCells, hz1, hl]
    omega
  · simp only [Array.toList_append, Nat.mul_one]
    rw [← hl]
    exact List.take_left

/-- Onto a slice that is full (cut at its length, nil): always a new array. -/
theorem run_app_full {B B2 n m c c2 : Nat} {A A2 : Option Addr} {xs ys : List Value} (ht : P.underlying t = some (.slice e)) (hi : P.info? e = some i) (hz : i.zero = some z) (hs1 : i.size = 1) (hz1 : z.cells.size = 1)
    (hd : SlN w B 1 (.slice A n c) n xs) (hs : SlN w B2 1 (.slice A2 m c2) m ys) (hfull : c < n + m) (hb : n + m ≤ 140737488500000 ∧ ((n + m) * i.bytes ≤ 140737488355328 ∨ i.bytes = 1)) :
    ∃ v' w', (Builtin.append_ #[t, t] ty #[.slice A n c, .slice A2 m c2]).run P w = .ok v' w' ∧ (w'.ownsRow w.heap.size e 1 v' (n + m) (xs ++ ys) ∧ Below w.heap.size w w') := by
  obtain ⟨hl, A', c', hv, hc, hm, h0, hx⟩ := hd
  injection hv with e1 e2 e3
  subst e1; subst e3
  obtain ⟨hl2, A2', c2', hv2, hc2, hm2, _, hx2⟩ := hs
  injection hv2 with e1 e2 e3
  subst e1; subst e3
  obtain ⟨b2, off2, rfl, _, hx2⟩ := hx2 (by omega)
  have hnews : ∀ j u, ys[j]? = some u → w.cell? ((⟨b2, off2, none⟩ : Addr).add j) = some u := fun j u hu => by rw [add_of_lit]; exact hx2 j u hu
  have h63 : n + m ≤ maxLen := by simp only [maxLen]; omega
  have hfit : Builtin.nextslicecap (n + m) c * i.bytes ≤ 281474976710656 := by
    rcases hb with ⟨hb0, hb | hb⟩
    · exact growslice_fits hfull hb
    · rw [hb, Nat.mul_one]; exact nextcap_fits hfull hb0
  have hlen : (xs ++ ys).length = n + m := by rw [List.length_append, hl, hl2]; omega
  have hge := grownCap_ge w (n + m) c e
  have hcm := grownCap_le_maxLen w (n + m) c e h63
  rcases A with _ | a
  · obtain rfl := h0 rfl
    obtain rfl : n = 0 := by omega
    obtain rfl : xs = [] := List.eq_nil_of_length_eq_zero (by simpa using hl)
    have hr := run_append_nil (P := P) w t ty e i z ht hi hz ⟨b2, off2, none⟩ m c2 ys (by rw [hl2, hs1]) hnews (by omega) (by simp only [maxLen] at h63; omega) (by rw [nextslicecap_zero (by omega)] at hfit; simpa using hfit)
    simp only [Nat.zero_add, List.nil_append] at hge hcm hlen ⊢
    have h := owns_new (w := w) (e := e) (z := z) m ys (grownCap w m 0 e) hlen hge hcm hz1 _ rfl
    exact ⟨_, _, hr, h.1, (Below.refl _ _).grown h.2 (Nat.le_refl _) (fun k hk => by cases hk)⟩
  · have holds : ∀ j u, xs[j]? = some u → w.cell? (a.add j) = some u := fun j u hu => by
      obtain ⟨b, off, ha, _, hxx⟩ := hx (by have := (List.getElem?_eq_some_iff.1 hu).1; omega)
      cases ha
      rw [add_of_lit]; exact hxx j u hu
    have hr := run_append_grow (P := P) w t ty e i z ht hi hz a n c xs (by rw [hl, hs1]) holds ⟨b2, off2, none⟩ m c2 ys (by rw [hl2, hs1]) hnews hfull (by simp only [maxLen] at h63; omega) hfit
    have h := owns_new (w := w) (e := e) (z := z) (n + m) (xs ++ ys) (grownCap w (n + m) c e) hlen hge hcm hz1 _ rfl
    rw [show xs.toArray ++ ys.toArray = (xs ++ ys).toArray by simp] at hr
    exact ⟨_, _, hr, h.1, (Below.refl _ _).grown h.2 (Nat.le_refl _) (fun k hk => by cases hk)⟩

/-- Nothing is appended: the slice stays. -/
theorem run_app_none {n c c2 : Nat} {A A2 : Option Addr} (ht : P.underlying t = some (.slice e)) (hi : P.info? e = some i) (hc : n ≤ c) :
    (Builtin.append_ #[t, t] ty #[.slice A n c, .slice A2 0 c2]).run P w = .ok (.slice A n c) w := by
  rcases A with _ | a <;> rcases A2 with _ | a2 <;>
    simp [Builtin.append_, run_underlying ht, sizeOf, typeInfo, hi, Builtin.lenOf, Builtin.firstCells, hc, storeCells, loadCells, loadCellsFrom]

/-- Onto a row of the call's own, a slice. -/
theorem run_app_own {base B2 n m c2 : Nat} {A2 : Option Addr} {v : Value} {xs ys : List Value} (ht : P.underlying t = some (.slice e)) (hi : P.info? e = some i) (hz : i.zero = some z) (hs1 : i.size = 1) (hz1 : z.cells.size = 1)
    (hown : w.ownsRow base e 1 v n xs) (hs : SlN w B2 1 (.slice A2 m c2) m ys) (h1 : ∀ u ∈ ys, u.oneCell' = true) (hbase : base ≤ w.heap.size)
    (hb : n + m ≤ 140737488500000 ∧ ((n + m) * i.bytes ≤ 140737488355328 ∨ i.bytes = 1)) :
    ∃ v' w', (Builtin.append_ #[t, t] ty #[v, .slice A2 m c2]).run P w = .ok v' w' ∧ (w'.ownsRow base e 1 v' (n + m) (xs ++ ys) ∧ Below base w w') := by
  have hs' := hs
  obtain ⟨hl2, A2', c2', hv2, hc2, hm2, _, hx2⟩ := hs
  injection hv2 with e1 e2 e3
  subst e1; subst e3
  have hbel : Below base w w := Below.refl _ _
  rcases hown.2 with ⟨rfl, rfl⟩ | ⟨g, cap, cur, rfl, hbg, hg, hnc, hcm, hcs, htake⟩
  · have hx0 : xs = [] := List.eq_nil_of_length_eq_zero (by simpa using hown.1)
    subst hx0
    rcases Nat.eq_zero_or_pos m with rfl | hm0
    · have : ys = [] := List.eq_nil_of_length_eq_zero (by simpa using hl2)
      subst this
      exact ⟨_, _, run_app_none ht hi (Nat.le_refl _), hown, hbel⟩
    · obtain ⟨v', w', hr, h2, h3⟩ := run_app_full (ty := ty) (B := 0) (xs := []) ht hi hz hs1 hz1 ⟨rfl, none, 0, rfl, Nat.le_refl _, by simp, fun _ => rfl, fun h => absurd h (Nat.lt_irrefl _)⟩ hs' (by omega) hb
      refine ⟨v', w', hr, ?_, h3.mono hbase⟩
      obtain ⟨h4, h5⟩ := h2
      refine ⟨h4, ?_⟩
      rcases h5 with h5 | ⟨g, cap, cur, hv, hbg, r⟩
      · exact .inl h5
      · exact .inr ⟨g, cap, cur, hv, by omega, r⟩
  · by_cases hroom : n + m ≤ cap
    · have hlen : (xs ++ ys).length = (n + m) * 1 := by rw [List.length_append, hown.1, hl2]; omega
      rcases Nat.eq_zero_or_pos m with rfl | hm0
      · have : ys = [] := List.eq_nil_of_length_eq_zero (by simpa using hl2)
        subst this
        exact ⟨_, _, run_app_none ht hi hnc, by simpa using hown, hbel⟩
      · obtain ⟨b2, off2, rfl, _, hx2⟩ := hx2 hm0
        have hnews : ∀ j u, ys[j]? = some u → w.cell? ((⟨b2, off2, none⟩ : Addr).add j) = some u := fun j u hu => by rw [add_of_lit]; exact hx2 j u hu
        have hfit : n * i.size + ys.length ≤ cur.size := by rw [hl2, hcs, hs1]; omega
        have hr := run_append_room (P := P) w t ty e i ht hi g n cap cur hg ⟨b2, off2, none⟩ m c2 ys (by rw [hl2, hs1]) hnews h1 hroom hfit
        refine ⟨_, _, hr, ⟨hlen, .inr ⟨g, cap, _, rfl, hbg, setRow_heap w g cur _ e _ hg, hroom, hcm, ?_, ?_⟩⟩, ?_⟩
        · simp only [List.size_toArray, List.length_append, List.length_take, List.length_drop, Array.length_toList]
          omega
        · rw [hs1, htake, ← hlen]
          exact List.take_left
        · exact hbel.grown (w := w) (row := some g) ⟨rfl, rfl, rfl, by simp, fun k _ hk => setRow_other w g k _ (fun e => hk (by rw [e]))⟩ hbase (fun k hk => by cases hk; exact hbg)
    · have hd : SlN w w.heap.size 1 (.slice (some ⟨g, 0, none⟩) n cap) n xs := SlN.of_own hown
      obtain ⟨v', w', hr, h2, h3⟩ := run_app_full (ty := ty) ht hi hz hs1 hz1 hd hs' (by omega) hb
      refine ⟨v', w', hr, ?_, h3.mono hbase⟩
      obtain ⟨h4, h5⟩ := h2
      refine ⟨h4, ?_⟩
      rcases h5 with h5 | ⟨g, cap, cur, hv, hbg, r⟩
      · exact .inl h5
      · exact .inr ⟨g, cap, cur, hv, by omega, r⟩
/-- Onto a row of the call's own, a string. -/
theorem run_app_str {base n : Nat} {u : TypeId} {v : Value} {xs : List Value} (ht : P.underlying t = some (.slice e)) (hu : P.underlying u = some .string) (hi : P.info? e = some i) (hz : i.zero = some (.int .u8 0)) (hs1 : i.size = 1) (hby : i.bytes = 1)
    (hown : w.ownsRow base e 1 v n xs) (s : ByteArray) (hbase : base ≤ w.heap.size) (hb : n + s.size ≤ 140737488500000) :
    ∃ v' w', (Builtin.append_ #[t, u] ty #[v, .string s]).run P w = .ok v' w' ∧ (w'.ownsRow base e 1 v' (n + s.size) (xs ++ bv s.data.toList) ∧ Below base w w') := by
  have hsl : (bv s.data.toList).length = s.size := by rw [bv_length, Array.length_toList]; rfl
  have hsc : Lib.strCells s = bv s.data.toList := rfl
  have hbel : Below base w w := Below.refl _ _
  have hxl : xs.length = n := by simpa using hown.1
  have hlen : (xs ++ bv s.data.toList).length = n + s.size := by rw [List.length_append, hxl, hsl]
  have hz1 : (Value.int IntKind.u8 0).cells.size = 1 := rfl
  have grown : ∀ (c old : Nat) (nc : Array Value), c = grownCap w (n + s.size) old e → nc = (xs ++ bv s.data.toList).toArray ++ Builtin.zeroCells (Value.int .u8 0).cells (c - (n + s.size)) →
      (w.drew.alloc (.cells nc e)).ownsRow base e 1 (.slice (some ⟨w.heap.size, 0, none⟩) (n + s.size) c) (n + s.size) (xs ++ bv s.data.toList) ∧ Below base w (w.drew.alloc (.cells nc e)) := by
    rintro c old nc rfl rfl
    have hge := grownCap_ge w (n + s.size) old e
    have hcm := grownCap_le_maxLen w (n + s.size) old e (by simp only [maxLen]; omega)
    have h := owns_new (w := w) (e := e) (z := .int .u8 0) (n + s.size) _ _ hlen hge hcm hz1 _ rfl
    refine ⟨⟨h.1.1, ?_⟩, hbel.grown h.2 hbase (fun k hk => by cases hk)⟩
    rcases h.1.2 with h5 | ⟨g, cap, cur, hv, hbg, r⟩
    · exact .inl h5
    · exact .inr ⟨g, cap, cur, hv, by omega, r⟩
  rcases hown.2 with ⟨rfl, rfl⟩ | ⟨g, cap, cur, rfl, hbg, hg, hnc, hcm, hcs, htake⟩
  · have hx0 : xs = [] := List.eq_nil_of_length_eq_zero hxl
    subst hx0
    rcases Nat.eq_zero_or_pos s.size with h0 | h0
    · have hn : bv s.data.toList = [] := List.eq_nil_of_length_eq_zero (by rw [hsl]; exact h0)
      have hf := Lib.run_firstCells_string (P := P) w 1 s
      rw [h0, hsc, hn] at hf
      refine ⟨.slice none 0 0, w, ?_, by rw [h0, hn]; exact World.ownsRow_nil w base e 1, hbel⟩
      simp [Builtin.append_, run_underlying ht, run_underlying hu, sizeOf, typeInfo, hi, hs1, Builtin.lenOf, h0, hf]
    · have hr := run_append_nil_string (P := P) w t u ty e i (.int .u8 0) ht hu hi hz s h0 (by omega) (by rw [hby]; omega)
      have h := grown (grownCap w s.size 0 e) 0 ((s.data.map fun b => Value.int .u8 b.toNat) ++ Builtin.zeroCells (Value.int .u8 0).cells (grownCap w s.size 0 e - s.size)) (by simp) (by
        simp only [List.nil_append, Nat.zero_add]
        congr 1
        apply Array.ext'
        simp [bv])
      simp only [Nat.zero_add] at h ⊢
      exact ⟨_, _, hr, h.1, h.2⟩
  · by_cases hroom : n + s.size ≤ cap
    · have hcs' : cur.size = cap := by simpa using hcs
      have hr := Lib.run_append_room_string (P := P) w t u ty e i ht hu hi hs1 g n cap cur hg s hroom (by omega)
      refine ⟨_, _, hr, ⟨by simpa using hlen, .inr ⟨g, cap, _, rfl, hbg, setRow_heap w g cur _ e _ hg, hroom, hcm, ?_, ?_⟩⟩, ?_⟩
      · simp only [List.size_toArray, List.length_append, List.length_take, List.length_drop, Array.length_toList, hsc, hsl]
        omega
      · have ht' : cur.toList.take n = xs := by simpa using htake
        rw [ht', hsc, Nat.mul_one, ← hlen]
        exact List.take_left
      · exact hbel.grown (w := w) (row := some g) ⟨rfl, rfl, rfl, by simp, fun k _ hk => setRow_other w g k _ (fun e => hk (by rw [e]))⟩ hbase (fun k hk => by cases hk; exact hbg)
    · have holds : ∀ j u, xs[j]? = some u → w.cell? ((⟨g, 0, none⟩ : Addr).add j) = some u := hown.cells (g := g) rfl
      have hr := Lib.run_append_grow_string (P := P) w t u ty e i (.int .u8 0) ht hu hi hz ⟨g, 0, none⟩ n cap xs (by rw [hs1]; omega) holds s (by omega) (by omega) (by rw [hby, Nat.mul_one]; exact nextcap_fits (by omega) hb)
      rw [show xs.toArray ++ (Lib.strCells s).toArray = (xs ++ bv s.data.toList).toArray by rw [hsc]; simp] at hr
      have h := grown (grownCap w (n + s.size) cap e) cap _ rfl rfl
      exact ⟨_, _, hr, h.1, h.2⟩
end

theorem owns_base {w : World} {base base' size n : Nat} {e : TypeId} {v : Value} {xs : List Value} (h : w.ownsRow base e size v n xs) (hb : base' ≤ base) : w.ownsRow base' e size v n xs := by
  refine ⟨h.1, ?_⟩
  rcases h.2 with h5 | ⟨g, cap, cur, hv, hbg, r⟩
  · exact .inl h5
  · exact .inr ⟨g, cap, cur, hv, by omega, r⟩

/-- The operation, for the walk: what the builtin append comes to is known. -/
theorem wpList_app {P : Program} {w : World} {ops : Array Oper} {rest : List Oper} {o : Oper} {a : Act} {Q : Exit → Act → World → Prop} (hgd : o.guard = none) (s x : Operand) (t t2 : TypeId)
    (ho : o.op = .call { callee := .builtin .append, args := #[s, x], argTypes := #[t, t2] }) (v1 v2 : Value) (hs : a.eval s = v1) (hx : a.eval x = v2) (R : Value → World → Prop)
    (hrun : ∃ v' w', (Builtin.append_ #[t, t2] o.type #[v1, v2]).run P w = .ok v' w' ∧ R v' w')
    (h : ∀ v' w', R v' w' → wpList P ops Q rest (a.put o.dst v') w') : wpList P ops Q (o :: rest) a w := by
  refine wpList_plain hgd fun K hK => ?_
  obtain ⟨v', w', hr, hR⟩ := hrun
  unfold Oper.wp execOp
  simp only [ho, resolve, invoke, builtin, Sem.run_bind, Sem.run_pure, Result.andThen_ok, List.map_toArray, List.map_cons, List.map_nil, hs, hx, hr]
  exact hK _ _ (h v' w' hR)

/-- A string of bytes. -/
def strB (bs : List UInt8) : ByteArray := ⟨bs.toArray⟩
theorem strB_toList (bs : List UInt8) : (strB bs).data.toList = bs := by simp [strB]
theorem strB_size (bs : List UInt8) : (strB bs).size = bs.length := by show bs.toArray.size = _; simp
theorem strB_of (s : ByteArray) : strB s.data.toList = s := by simp [strB]
theorem strB_inj {a b : List UInt8} (h : strB a = strB b) : a = b := by
  have := congrArg (fun s : ByteArray => s.data.toList) h
  simpa [strB] using this
/-- string(b), for the walk. -/
theorem conv_str {P : Program} {w : World} {B n : Nat} {v : Value} {bs : List UInt8} {src e dst : TypeId} (hs : P.underlying src = some (.slice e)) (he : P.underlying e = some (.int .u8)) (hd : P.underlying dst = some .string)
    (h : SlN w B 1 v n (bv bs)) : (convert src dst v).run P w = .ok (.string (strB bs)) w := by
  obtain ⟨hl, A, c, rfl, hc, hm, h0, hx⟩ := h
  have hbl : bs.length = n := by rw [bv_length] at hl; omega
  rcases A with _ | a
  · have : c = 0 := h0 rfl
    have : bs = [] := List.eq_nil_of_length_eq_zero (by omega)
    subst this
    exact run_convert_bytes_nil w src e hs he n c dst hd
  · have hl2 : (loadCells a n).run P w = .ok ((bs.map fun b => (b.toNat : Int)).map (Value.int .u8)).toArray w := by
      have := run_loadCells_list (P := P) w a (bv bs) (fun j u hu => by
        have hj := (List.getElem?_eq_some_iff.1 hu).1
        rw [bv_length] at hj
        obtain ⟨b, off, ha, _, hxx⟩ := hx (by omega)
        cases ha
        rw [add_of_lit]
        exact hxx j u hu)
      rw [bv_length, hbl] at this
      rw [this]
      simp [bv, Function.comp_def]
    rw [run_convert_bytes_string w src dst e _ n c hs he hd, run_bytesToString w _ n c _ hl2, foldl_push_bytes]
    simp [strB, ByteArray.empty, ByteArray.emptyWithCapacity, Function.comp_def]
    rfl

/-- A prefix of what a slice reads as. -/
theorem SlN.take_ {w : World} {B n c k : Nat} {A : Option Addr} {xs : List Value} (h : SlN w B 1 (.slice A n c) n xs) (hk : k ≤ n) : SlN w B 1 (.slice A k c) k (xs.take k) := by
  obtain ⟨hl, A', c', hv, hc, hm, h0, hx⟩ := h
  injection hv with e1 e2 e3
  subst e1; subst e3
  refine ⟨by simp; omega, A, c, rfl, by omega, hm, h0, fun hp => ?_⟩
  obtain ⟨b, off, hA, hB, hx⟩ := hx (by omega)
  refine ⟨b, off, hA, hB, fun j u hu => hx j u ?_⟩
  have hj := (List.getElem?_eq_some_iff.1 hu).1
  rw [List.getElem?_take_of_lt (by simp at hj; omega)] at hu
  exact hu
theorem SlN.toSl {w : World} {B n : Nat} {v : Value} {xs : List Value} (h : SlN w B 1 v n xs) : Sl w B v xs := by
  have : xs.length = n := by simpa using h.1
  show SlN _ _ _ _ _ _
  rw [this]; exact h

/-- A literal of bytes. -/
theorem lit_sl (w : World) (e : TypeId) (bs : List UInt8) (n : Nat) (hn : bs.length = n) (hm : n ≤ 65536) :
    Sl (w.alloc (.cells (bv bs).toArray e)) (w.alloc (.cells (bv bs).toArray e)).heap.size (.slice (some ⟨w.heap.size, 0, none⟩) n n) (bv bs) := by
  refine SlN.toSl (n := n) ⟨by rw [bv_length]; omega, _, n, rfl, Nat.le_refl _, by unfold maxLen; omega, (fun h => by cases h), fun _ => ⟨w.heap.size, 0, rfl, by simp, fun j u hu => ?_⟩⟩
  rw [Blk.cell (Blk.new w e (bv bs).toArray) (0 + j)]
  simpa using hu
end Go.Proofs.YtagjmkgbfbaekaaDoor
