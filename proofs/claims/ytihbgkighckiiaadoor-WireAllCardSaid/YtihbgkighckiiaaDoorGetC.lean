/- What wire.Get and the document's share: bytes of a string, one argument more, what stands in memory between. No condition. -/
import Derived.Test.YtihbgkighckiiaaDoorArgL
import Derived.Test.YtihbgkighckiiaaDoorFeedL
import Derived.Laws.AppendOwn
import Derived.Lib.ConvBytes
namespace Go.Proofs.YtihbgkighckiiaaDoor
open Go.RowKit
set_option maxRecDepth 100000

theorem Tryd.infoArgG : (Tryd.prog.info? 26).map (fun i => (i.zero, i.size, i.bytes)) = some (some (.agg #[.int .u8 0, .int .i64 0, .string ⟨#[]⟩]), 3, 32) := by kernel_rfl
/-- []byte(s). -/
theorem conv_bytes (w : World) (s : ByteArray) (hs : s.size ≤ 140737488351232) : ∃ c w', (convert 9 30 (.string s)).run Tryd.prog w = .ok (.slice (some ⟨w.heap.size, 0, none⟩) s.size c) w' ∧
    Sl w' w'.heap.size (.slice (some ⟨w.heap.size, 0, none⟩) s.size c) (bv s.data.toList) ∧ Below w.heap.size w w' := by
  have hr := Lib.run_convert_string_bytes (P := Tryd.prog) w 9 30 5 s Tryd.underlying9 Tryd.underlying30 Tryd.underlying5
  have hge := grownCap_ge w s.size 0 5
  have hcm := grownCap_le_maxLen w s.size 0 5 (by simp only [maxLen]; omega)
  have hl : s.data.toList.length = s.size := by rw [Array.length_toList]; rfl
  refine ⟨_, _, hr, ?_, ?_⟩
  · refine SlN.toSl (n := s.size) ⟨by rw [bv_length, hl]; omega, _, _, rfl, hge, hcm, (fun h => by cases h), fun _ => ⟨w.heap.size, 0, rfl, by rw [Lib.bytesWorld_size]; omega, fun j u hu => ?_⟩⟩
    have hj : j < s.size := by have := (List.getElem?_eq_some_iff.1 hu).1; rw [bv_length, hl] at this; exact this
    rw [Nat.zero_add, Lib.bytesWorld_cell w 5 s j hj]
    rw [bv_get _ j (by rw [hl]; exact hj)] at hu
    rw [← hu, List.getD_eq_getElem?_getD, List.getElem?_eq_getElem (by rw [hl]; exact hj)]
    rfl
  · exact ⟨rfl, rfl, rfl, by rw [Lib.bytesWorld_size]; omega, fun i hi => Lib.bytesWorld_at_old w 5 s i hi⟩
theorem argCells_app (l m : List ArgD) : argCells (l ++ m) = argCells l ++ argCells m := by simp [argCells]
/-- One argument more onto a row of arguments. -/
theorem arg_app2 {w : World} {z n : Nat} {v : Value} {xs : List Value} (k x : Int) (s : ByteArray) (ty : TypeId) (ho : w.ownsRow z 26 3 v n xs) (hz0 : z ≤ w.heap.size) (hn : n ≤ 60000) :
    ∃ v' w', (Builtin.append_ #[27, 27] ty #[v, .slice (some ⟨w.heap.size, 0, none⟩) 1 1]).run Tryd.prog (w.alloc (.cells #[.int .u8 k, .int .i64 x, .string s] 26)) = .ok v' w' ∧
      Hid (w'.ownsRow z 26 3 v' (n + 1) (xs ++ [.int .u8 k, .int .i64 x, .string s]) ∧ Below z w w') := by
  obtain ⟨i, hi, hz, hs, hby⟩ := info_parts Tryd.infoArgG
  have hb1 : Below z w (w.alloc (.cells #[.int .u8 k, .int .i64 x, .string s] 26)) := (Below.refl z w).alloc hz0 _
  have hlit : ∀ j u, [Value.int .u8 k, .int .i64 x, .string s][j]? = some u → (w.alloc (.cells #[.int .u8 k, .int .i64 x, .string s] 26)).cell? ((⟨w.heap.size, 0, none⟩ : Addr).add j) = some u := fun j u hu => by
    rw [add_of_lit, (Blk.new w 26 _).cell]; simpa using hu
  have hz1 : z ≤ (w.alloc (.cells #[.int .u8 k, .int .i64 x, .string s] 26)).heap.size := by rw [World.size_alloc]; omega
  obtain ⟨v', w', hr, h2, h3, _⟩ := run_append_own (P := Tryd.prog) (w := w.alloc (.cells #[.int .u8 k, .int .i64 x, .string s] 26)) z 27 ty 26 i _ 3 32 Tryd.underlying27 hi hz hs hby rfl (by decide) v n xs
    (ho.alloc (.cells #[.int .u8 k, .int .i64 x, .string s] 26)) ⟨w.heap.size, 0, none⟩ 1 1 [.int .u8 k, .int .i64 x, .string s] rfl hlit (by intro u hu; simp at hu; rcases hu with rfl | rfl | rfl <;> rfl) (by unfold maxLen; omega) (by omega) hz1
  refine ⟨v', w', hr, h2, hb1.grown h3 hz1 (fun b hb2 => ?_)⟩
  rcases ho.2 with ⟨rfl, _⟩ | ⟨b2, cap, cur, rfl, hb3, _⟩
  · simp [Value.ownBlock] at hb2
  · simp [Value.ownBlock] at hb2; omega

theorem own_low {w : World} {base base' size n : Nat} {e : TypeId} {v : Value} {xs : List Value} (h : w.ownsRow base e size v n xs) (hb : base' ≤ base) : w.ownsRow base' e size v n xs := by
  refine ⟨h.1, ?_⟩
  rcases h.2 with h5 | ⟨g, cap, cur, hv, hbg, r⟩
  · exact .inl h5
  · exact .inr ⟨g, cap, cur, hv, by omega, r⟩
/-- What stands in memory in a round of Get: the result, empty; the message so far; its arguments; the bytes. -/
structure GetSt (w : World) (z g4 g6 : Nat) (o p : Int) (bvv : Value) (bs : List UInt8) (l : List ArgD) (vl : Value) (wr : World) : Prop where
  r : Blk wr g4 29 #[.int .i64 0, .int .i64 0, .slice none 0 0]
  m : Blk wr g6 29 #[.int .i64 o, .int .i64 p, vl]
  own : wr.ownsRow z 26 3 vl l.length (argCells l)
  b : Sl wr z bvv (bv bs)
  bel : Below w.heap.size w wr
  z : z ≤ wr.heap.size
/-- What does not turn. -/
structure GetFix (w : World) (z g4 g6 : Nat) (bvv : Value) : Prop where
  w4 : w.heap.size ≤ g4
  w6 : w.heap.size ≤ g6
  z4 : g4 < z
  z6 : g6 < z
  ne : g4 ≠ g6
  off : ∀ b off n c, bvv = .slice (some ⟨b, off, none⟩) n c → b ≠ g6
section
variable {w wr w' : World} {z g4 g6 : Nat} {o p : Int} {bvv vl : Value} {bs : List UInt8} {l : List ArgD}
theorem GetSt.below (h : GetSt w z g4 g6 o p bvv bs l vl wr) (hb : Below wr.heap.size wr w') : GetSt w z g4 g6 o p bvv bs l vl w' :=
  ⟨h.r.below hb h.r.lt, h.m.below hb h.m.lt, h.own.kept ⟨hb.os, hb.tape, hb.output, hb.size, fun i hi _ => hb.block i hi⟩ (Classical.em _), h.b.below (hb.mono h.z), h.bel.trans (hb.mono h.bel.size), Nat.le_trans h.z hb.size⟩
theorem sl_only {g n : Nat} {v : Value} {xs : List Value} (h : SlN w z 1 v n xs) (ho : ∀ b off n c, v = .slice (some ⟨b, off, none⟩) n c → b ≠ g) (hb : w.grownBy w' (some g)) (hB : z ≤ w.heap.size) : SlN w' z 1 v n xs := by
  obtain ⟨hl, A, c, rfl, hc, hm, h0, hx⟩ := h
  refine ⟨hl, A, c, rfl, hc, hm, h0, fun hn => ?_⟩
  obtain ⟨b, off, rfl, hb2, hx⟩ := hx hn
  refine ⟨b, off, rfl, hb2, fun j u hu => ?_⟩
  have hne : b ≠ g := ho b off n c rfl
  exact (World.cell?_of_block (hb.block b (by omega) (fun e => hne (by injection e)))).trans (hx j u hu)
theorem GetSt.step {v' : Value} {k x : Int} {s : ByteArray} (hf : GetFix w z g4 g6 bvv) (h : GetSt w z g4 g6 o p bvv bs l vl wr) (hR : w'.ownsRow z 26 3 v' (l.length + 1) (argCells l ++ [.int .u8 k, .int .i64 x, .string s]) ∧ Below z wr w') :
    GetSt w z g4 g6 o p bvv bs (l ++ [(k, x, s)]) v' (w'.setCell ⟨g6, 2, none⟩ v') := by
  have hst := only_set (only_refl w' (some g6)) 2 v'
  have hz := Nat.le_trans h.z hR.2.size
  have hwz : w.heap.size ≤ z := Nat.le_trans hf.w4 (Nat.le_of_lt hf.z4)
  refine ⟨(h.r.below hR.2 hf.z4).grown hst (by simpa using hf.ne), (h.m.below hR.2 hf.z6).set_ 2 v', ?_, ?_, ?_, Nat.le_trans hz hst.size⟩
  · rw [argCells_app, List.length_append]
    refine hR.1.kept hst ?_
    rcases hR.1.2 with ⟨rfl, _⟩ | ⟨b2, cap, cur, rfl, hb3, _⟩
    · exact .inl rfl
    · exact .inr (by simp [Value.ownBlock]; have := hf.z6; omega)
  · exact sl_only (h.b.below hR.2) hf.off hst hz
  · exact below_of_only (h.bel.trans (hR.2.mono hwz)) hst (Nat.le_trans h.bel.size hR.2.size) hf.w6
theorem GetSt.bel4 (h : GetSt w z g4 g6 o p bvv bs l vl wr) (hf : GetFix w z g4 g6 bvv) (a b c : Value) : Below w.heap.size w (((wr.setCell ⟨g4, 0, none⟩ a).setCell ⟨g4, 1, none⟩ b).setCell ⟨g4, 2, none⟩ c) :=
  below_of_only h.bel (only_set (only_set (only_set (only_refl wr (some g4)) 0 a) 1 b) 2 c) h.bel.size hf.w4
theorem GetSt.args4 (h : GetSt w z g4 g6 o p bvv bs l vl wr) (hf : GetFix w z g4 g6 bvv) (a b c : Value) : (((wr.setCell ⟨g4, 0, none⟩ a).setCell ⟨g4, 1, none⟩ b).setCell ⟨g4, 2, none⟩ c).ownsRow w.heap.size 26 3 vl l.length (argCells l) := by
  have hst := only_set (only_set (only_set (only_refl wr (some g4)) 0 a) 1 b) 2 c
  refine own_low (h.own.kept hst ?_) (Nat.le_trans hf.w4 (Nat.le_of_lt hf.z4))
  rcases h.own.2 with ⟨rfl, _⟩ | ⟨b2, cap, cur, rfl, hb3, _⟩
  · exact .inl rfl
  · exact .inr (by simp [Value.ownBlock]; have := hf.z4; omega)
end
theorem arg_app3 {w w5 : World} {z g4 g6 : Nat} {o p : Int} {bvv vl : Value} {bs : List UInt8} {l : List ArgD} (k x : Int) (s : ByteArray) (ty : TypeId) (h : GetSt w z g4 g6 o p bvv bs l vl w5) (hn : l.length ≤ 60000) :
    ∃ v' w', (Builtin.append_ #[27, 27] ty #[vl, .slice (some ⟨w5.heap.size + 1, 0, none⟩) 1 1]).run Tryd.prog ((w5.alloc (.cells #[.int .u8 k, .int .i64 x, .string s] 26)).alloc (.cells #[.int .u8 k, .int .i64 x, .string s] 26)) = .ok v' w' ∧
      Hid (w'.ownsRow z 26 3 v' (l.length + 1) (argCells l ++ [.int .u8 k, .int .i64 x, .string s]) ∧ Below z w5 w') := by
  have hbx : Below w5.heap.size w5 (w5.alloc (.cells #[.int .u8 k, .int .i64 x, .string s] 26)) := (Below.refl _ _).alloc (Nat.le_refl _) _
  have h2 := h.below hbx
  obtain ⟨v', w', hr, hR⟩ := arg_app2 k x s ty h2.own h2.z hn
  rw [World.size_alloc] at hr
  exact ⟨v', w', hr, hR.out.1, (hbx.mono h.z).trans hR.out.2⟩
theorem args_nil (w : World) (B : Nat) : w.ownsRow B 26 3 (.slice none 0 0) ([] : List ArgD).length (argCells []) := World.ownsRow_nil _ _ _ _
end Go.Proofs.YtihbgkighckiiaaDoor
