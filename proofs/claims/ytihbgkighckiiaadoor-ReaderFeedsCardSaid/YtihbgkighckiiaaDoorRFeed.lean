/- The contract of the document's reader: (*tableauref05.R).Feed. No condition. -/
import Derived.Test.YtihbgkighckiiaaDoorRawApp
import Derived.Test.YtihbgkighckiiaaDoorBytes
import Derived.Deep.CutBlock
import Derived.Deep.CutRange
namespace Go.Proofs.YtihbgkighckiiaaDoor
open Go.RowKit
set_option maxRecDepth 100000

/-- The document's reader at block h. -/
def RRs (w : World) (h : Nat) (left : List UInt8) (k : Nat) : Prop :=
  ∃ v, Blk w h 68 #[v, .int .i64 k] ∧ Sl w w.heap.size v (bv left) ∧ Off v h
/-- .. and what is left lies apart from all blocks below z. -/
def RRz (w : World) (h : Nat) (left : List UInt8) (k z : Nat) : Prop :=
  ∃ v, Blk w h 68 #[v, .int .i64 k] ∧ Sl w w.heap.size v (bv left) ∧ ∀ g', g' < z → Off v g'
theorem RRz.is {w : World} {h : Nat} {left : List UInt8} {k z : Nat} (hr : RRz w h left k z) (hh : h < z) : RRs w h left k := by
  obtain ⟨v, h1, h2, h3⟩ := hr
  exact ⟨v, h1, h2, h3 h hh⟩
def RFeedPost (h : Nat) (left : List UInt8) (k : Nat) (b : List UInt8) (w : World) (e : Ending) (w' : World) : Prop :=
  ∃ vl, e = .returned (.tuple #[vl, .int .i64 (fed left k b).2.2]) ∧ w'.ownsRow w.heap.size 50 3 vl (fed left k b).1.length (rawCells (fed left k b).1) ∧ RRs w' h (fed left k b).2.1 (fed left k b).2.2 ∧ w.grownBy w' (some h)
def RFeedPost' (h : Nat) (left : List UInt8) (k : Nat) (b : List UInt8) (w : World) (e : Ending) (w' : World) : Prop :=
  RFeedPost h left k b w e w' ∧ (k = 0 → RRz w' h (fed left k b).2.1 (fed left k b).2.2 w.heap.size)
theorem nil_app {w : World} {v : Value} {bs : List UInt8} (ty : TypeId) (hs : Sl w w.heap.size v (bv bs)) (hl : bs.length ≤ 60000) :
    ∃ v' w', (Builtin.append_ #[30, 30] ty #[.slice none 0 0, v]).run Tryd.prog w = .ok v' w' ∧ Hid (w'.ownsRow w.heap.size 5 1 v' bs.length (bv bs) ∧ Below w.heap.size w w') := by
  obtain ⟨i, hi, hz, hs1, hby⟩ := info_parts Tryd.infoU8
  have hs' := hs
  obtain ⟨_, A, c, rfl, _⟩ := hs
  unfold Sl at hs'
  rw [bv_length] at hs' ⊢
  obtain ⟨v', w', hr, h2, h3⟩ := run_app_own (ty := ty) Tryd.underlying30 hi hz hs1 rfl (World.ownsRow_nil w w.heap.size 5 1) hs' (bv_one bs) (Nat.le_refl _) ⟨by omega, .inr hby⟩
  rw [Nat.zero_add, List.nil_append] at h2
  exact ⟨v', w', hr, h2, h3⟩
theorem own_app {w : World} {B : Nat} {v v2 : Value} {bs cs : List UInt8} (ty : TypeId) (ho : w.ownsRow B 5 1 v bs.length (bv bs)) (hs : Sl w w.heap.size v2 (bv cs)) (hB : B ≤ w.heap.size) (hl : bs.length + cs.length ≤ 60000) :
    ∃ v' w', (Builtin.append_ #[30, 30] ty #[v, v2]).run Tryd.prog w = .ok v' w' ∧ Hid (w'.ownsRow B 5 1 v' (bs ++ cs).length (bv (bs ++ cs)) ∧ Below B w w') := by
  obtain ⟨i, hi, hz, hs1, hby⟩ := info_parts Tryd.infoU8
  have hs' := hs
  obtain ⟨_, A, c, rfl, _⟩ := hs
  unfold Sl at hs'
  rw [bv_length] at hs' ⊢
  obtain ⟨v', w', hr, h2, h3⟩ := run_app_own (ty := ty) Tryd.underlying30 hi hz hs1 rfl ho hs' (bv_one cs) hB ⟨by omega, .inr hby⟩
  rw [bv_append, List.length_append]
  exact ⟨v', w', hr, h2, h3⟩
theorem own_app' {w : World} {B : Nat} {v v2 : Value} {bs cs al : List UInt8} (ty : TypeId) (hal : al = bs ++ cs) (ho : w.ownsRow B 5 1 v bs.length (bv bs)) (hs : Sl w w.heap.size v2 (bv cs)) (hB : B ≤ w.heap.size) (hl : bs.length + cs.length ≤ 60000) :
    ∃ v' w', (Builtin.append_ #[30, 30] ty #[v, v2]).run Tryd.prog w = .ok v' w' ∧ Hid (w'.ownsRow B 5 1 v' al.length (bv al) ∧ Below B w w') := by
  subst hal
  exact own_app ty ho hs hB hl
/-- One message more onto a row of messages. -/
theorem raw_app2 {w : World} {z n : Nat} {v : Value} {xs : List Value} (x y : Int) (s : ByteArray) (ty : TypeId) (ho : w.ownsRow z 50 3 v n xs) (hz0 : z ≤ w.heap.size) (hn : n ≤ 60000) :
    ∃ v' w', (Builtin.append_ #[69, 69] ty #[v, .slice (some ⟨w.heap.size, 0, none⟩) 1 1]).run Tryd.prog (w.alloc (.cells #[.int .i64 x, .int .i64 y, .string s] 50)) = .ok v' w' ∧
      Hid (w'.ownsRow z 50 3 v' (n + 1) (xs ++ [.int .i64 x, .int .i64 y, .string s]) ∧ Below z w w') := by
  obtain ⟨i, hi, hz, hs, hby⟩ := info_parts Tryd.infoRaw
  have hb1 : Below z w (w.alloc (.cells #[.int .i64 x, .int .i64 y, .string s] 50)) := (Below.refl z w).alloc hz0 _
  have hlit : ∀ j u, [Value.int .i64 x, .int .i64 y, .string s][j]? = some u → (w.alloc (.cells #[.int .i64 x, .int .i64 y, .string s] 50)).cell? ((⟨w.heap.size, 0, none⟩ : Addr).add j) = some u := fun j u hu => by
    rw [add_of_lit, (Blk.new w 50 _).cell]; simpa using hu
  have hz1 : z ≤ (w.alloc (.cells #[.int .i64 x, .int .i64 y, .string s] 50)).heap.size := by rw [World.size_alloc]; omega
  obtain ⟨v', w', hr, h2, h3, _⟩ := run_append_own (P := Tryd.prog) (w := w.alloc (.cells #[.int .i64 x, .int .i64 y, .string s] 50)) z 69 ty 50 i _ 3 32 Tryd.underlying69 hi hz hs hby rfl (by decide) v n xs
    (ho.alloc (.cells #[.int .i64 x, .int .i64 y, .string s] 50)) ⟨w.heap.size, 0, none⟩ 1 1 [.int .i64 x, .int .i64 y, .string s] rfl hlit (by intro u hu; simp at hu; rcases hu with rfl | rfl | rfl <;> rfl) (by unfold maxLen; omega) (by omega) hz1
  refine ⟨v', w', hr, h2, hb1.grown h3 hz1 (fun b hb2 => ?_)⟩
  rcases ho.2 with ⟨rfl, _⟩ | ⟨b2, cap, cur, rfl, hb3, _⟩
  · simp [Value.ownBlock] at hb2
  · simp [Value.ownBlock] at hb2; omega

theorem SlN.cut2_ {w : World} {B m c p e : Nat} {b off : Nat} {xs : List Value} (h : SlN w B 1 (.slice (some ⟨b, off, none⟩) m c) m xs) (hp : p ≤ e) (he : e ≤ m) : SlN w B 1 (.slice (some ⟨b, off + p, none⟩) (e - p) (c - p)) (e - p) ((xs.take e).drop p) := by
  have h1 := (SlN.drop_ h (k := p) (by omega)).take_ (k := e - p) (by omega)
  rw [List.drop_take]
  exact h1
/-- How much is left. -/
def rMeas (h : Nat) (wr : World) : Nat := match wr.cell? ⟨h, 0, none⟩ with | some (.slice _ n _) => n | _ => 0
theorem rMeas_eq {h n c : Nat} {A : Option Addr} {wr : World} (hc : wr.cell? ⟨h, 0, none⟩ = some (.slice A n c)) : rMeas h wr = n := by unfold rMeas; rw [hc]
theorem rMeas_set {h n c : Nat} {A : Option Addr} {wr : World} {v0 v1 : Value} (hk : Blk wr h 68 #[v0, v1]) : rMeas h (wr.setCell ⟨h, 0, none⟩ (.slice A n c)) = n :=
  rMeas_eq (A := A) (c := c) (by rw [(hk.set_ 0 _).cell]; rfl)
def RFeedRel (w : World) (z h : Nat) (al : List UInt8) (vl : Value) (wr : World) : Prop :=
  ∃ (cur : List UInt8) (done : List RawD) (va : Value), Blk wr h 68 #[va, .int .i64 0] ∧ Sl wr z va (bv cur) ∧ (∀ g', g' < w.heap.size → Off va g') ∧ wr.ownsRow z 50 3 vl done.length (rawCells done) ∧
    feedL al = (done ++ (feedL cur).1, (feedL cur).2) ∧ done.length * 8 + cur.length ≤ al.length ∧ w.grownBy wr (some h) ∧ z ≤ wr.heap.size
theorem rfeed_ret {h z : Nat} {left b cur : List UInt8} {done : List RawD} {w wr : World} {va vl : Value} (hk : Blk wr h 68 #[va, .int .i64 0]) (hs : Sl wr z va (bv cur)) (ho : ∀ g', g' < w.heap.size → Off va g') (hr : wr.ownsRow z 50 3 vl done.length (rawCells done))
    (hf : feedL (left ++ b) = (done, cur, 0)) (hg : w.grownBy wr (some h)) (hz : w.heap.size ≤ z) (hz2 : z ≤ wr.heap.size) (hh : h < w.heap.size) : RFeedPost' h left 0 b w (.returned (.tuple #[vl, .int .i64 0])) wr := by
  have hfd : fed left 0 b = (done, cur, 0) := by unfold fed; rw [if_neg (by omega), hf]
  have hx : RRz wr h cur 0 w.heap.size := ⟨va, hk, hs.more hz2, ho⟩
  refine ⟨⟨vl, by rw [hfd]; rfl, ?_, ?_, hg⟩, fun _ => by rw [hfd]; exact hx⟩
  · rw [hfd]; exact owns_base hr hz
  · rw [hfd]; exact hx.is hh
theorem rfeed_retE {h z k : Nat} {left b : List UInt8} {done : List RawD} {w wr : World} {va vl : Value} (hk : Blk wr h 68 #[va, .int .i64 0]) (hr : wr.ownsRow z 50 3 vl done.length (rawCells done))
    (hf : feedL (left ++ b) = (done, [], k)) (hg : w.grownBy wr (some h)) (hz : w.heap.size ≤ z) (hh : h < w.heap.size) : RFeedPost' h left 0 b w (.returned (.tuple #[vl, .int .i64 k])) ((wr.setCell ⟨h, 0, none⟩ (.slice none 0 0)).setCell ⟨h, 1, none⟩ (.int .i64 k)) := by
  have hfd : fed left 0 b = (done, [], k) := by unfold fed; rw [if_neg (by omega), hf]
  have hs := only_set (only_set (only_refl wr (some h)) 0 (.slice none 0 0)) 1 (.int .i64 k)
  have hx : RRz ((wr.setCell ⟨h, 0, none⟩ (.slice none 0 0)).setCell ⟨h, 1, none⟩ (.int .i64 k)) h [] k w.heap.size := ⟨.slice none 0 0, (hk.set_ 0 _).set_ 1 _, Sl.nil_ _ _, fun _ _ => Off.nil_⟩
  refine ⟨⟨vl, by rw [hfd], ?_, ?_, only_trans hg hs⟩, fun _ => by rw [hfd]; exact hx⟩
  · rw [hfd]; exact (owns_base hr hz).kept hs (own_ne hr (by omega))
  · rw [hfd]; exact hx.is hh
/-- The end of a round: the message is out, what is left is stored. -/
theorem rfeed_step {w w4 w6 : World} {z h sz : Nat} {al cur : List UInt8} {done : List RawD} {str : ByteArray} {vl va va' : Value} (h8 : 8 ≤ sz) (hle : sz ≤ cur.length) (hd : done.length * 8 + cur.length ≤ al.length)
    (hf : feedL al = (done ++ (feedL cur).1, (feedL cur).2)) (hfs : feedL cur = ((headO cur, headP cur, str) :: (feedL (cur.drop sz)).1, (feedL (cur.drop sz)).2))
    (hk : Blk w4 h 68 #[va, .int .i64 0]) (hg : w.grownBy w4 (some h)) (hR : w6.ownsRow z 50 3 vl (done.length + 1) (rawCells done ++ [.int .i64 (headO cur), .int .i64 (headP cur), .string str]) ∧ Below z w4 w6)
    (hz : w.heap.size ≤ z) (hz4 : z ≤ w4.heap.size) (hh : h < z) (hh0 : h < w.heap.size) (hs : Sl w6 z va' (bv (cur.drop sz))) (ho : ∀ g', g' < w.heap.size → Off va' g') : RFeedRel w z h al vl (w6.setCell ⟨h, 0, none⟩ va') := by
  have hst := only_set (only_refl w6 (some h)) 0 va'
  have hz6 : z ≤ w6.heap.size := Nat.le_trans hz4 hR.2.size
  refine ⟨cur.drop sz, done ++ [(headO cur, headP cur, str)], va', (hk.below hR.2 hh).set_ 0 _, hs.only (ho h hh0) hst hz6, ho, ?_, ?_, ?_, ?_, ?_⟩
  · rw [rawCells_app, List.length_append]; exact hR.1.kept hst (own_ne hR.1 hh)
  · rw [hf, hfs]; simp
  · rw [List.length_append, List.length_drop]; simp; omega
  · refine only_trans ⟨hR.2.os.trans hg.os, hR.2.tape.trans hg.tape, hR.2.output.trans hg.output, Nat.le_trans hz hz6, fun i hi hn => (hR.2.block i (by omega)).trans (hg.block i hi hn)⟩ hst
  · exact Nat.le_trans hz6 hst.size
set_option maxHeartbeats 6400000 in
theorem rfeed_any' (h : Nat) (left : List UInt8) (k : Nat) (vb : Value) (b : List UInt8) (w : World) (hr : RRs w h left k) (hb : Sl w w.heap.size vb (bv b)) (hl : k = 0 → left.length + b.length ≤ 60000) :
    Calls Tryd.prog 33 #[.pointer (some ⟨h, 0, none⟩), vb] w (RFeedPost' h left k b w) := by
  obtain ⟨v, hk, hs, ho⟩ := hr
  have HK := Lib.hid hk
  have gc0 : w.cell? ⟨h, 0, none⟩ = some v := hk.cell 0
  have gc1 : w.cell? ⟨h, 1, none⟩ = some (.int .i64 k) := hk.cell 1
  have HR : Hid (RRs w h left k) := ⟨v, hk, hs, ho⟩
  have HO := Lib.hid ho
  clear hk ho
  by_cases hk0 : k = 0
  · subst hk0
    have hlen := hl rfl
    have HS := Lib.hid hs
    have HBV := Lib.hid hb
    clear hl HR hs hb
    have gc1' : w.cell? ⟨h, 1, none⟩ = some (.int .i64 0) := gc1
    obtain ⟨al, HAL⟩ : ∃ al, Hid (al = left ++ b) := ⟨_, rfl⟩
    have HK0 : Hid (Blk w h 68 #[v, .int .i64 0]) := HK.out
    clear gc1 HK
    go_enter Tryd.func33, Tryd.ntmps33
    go_upto_region 4 with (first
      | (at_builtin
         refine wpList_app rfl _ _ _ _ rfl _ _ rfl rfl _ (nil_app _ HS.out (by omega)) ?_
         intro v1 w1 hR1
         have HB1 := Lib.hid ((Sl.below HBV.out hR1.out.2).more hR1.out.2.size))
      | (at_builtin
         refine wpList_app rfl _ _ _ _ rfl _ _ rfl rfl _ (own_app' _ HAL.out hR1.out.1 HB1.out hR1.out.2.size hlen) ?_
         intro v2 w2 hR2
         have HB2 := Lib.hid (hR1.out.2.trans hR2.out.2)
         have HK2 := Lib.hid (HK0.out.below HB2.out HK0.out.lt)
         have f0 : w2.frozen? ⟨h, 0, none⟩ = false := HK2.out.frozen 0
         have f1 : w2.cell? ⟨h, 0, none⟩ = some v := HK2.out.cell 0
         obtain ⟨A2, c2, rfl⟩ := own_slice' hR2.out.1))
    have HZ : Hid (w.heap.size ≤ w2.heap.size) := HB2.out.size
    have HH : Hid (h < w.heap.size) := HK0.out.lt
    have hoffA : ∀ g', g' < w.heap.size → Off (.slice A2 al.length c2) g' := fun g' hg' => Off.of_own hR2.out.1 hg'
    have hoff := hoffA h HK0.out.lt
    have hst := only_set (only_refl w2 (some h)) 0 (.slice A2 al.length c2)
    have hs2 : Sl (w2.setCell ⟨h, 0, none⟩ (.slice A2 al.length c2)) w2.heap.size (.slice A2 al.length c2) (bv al) := (Sl.of_own hR2.out.1).only hoff hst (Nat.le_refl _)
    have hk3 := HK2.out.set_ 0 (.slice A2 al.length c2)
    have hg3 : w.grownBy (w2.setCell ⟨h, 0, none⟩ (.slice A2 al.length c2)) (some h) := only_trans (only_of_below HB2.out _) hst
    have hz3 : w2.heap.size ≤ (w2.setCell ⟨h, 0, none⟩ (.slice A2 al.length c2)).heap.size := hst.size
    have HS3 := Lib.hid hs2
    have HK3 : Hid (Blk (w2.setCell ⟨h, 0, none⟩ (.slice A2 al.length c2)) h 68 #[.slice A2 al.length c2, .int .i64 0]) := hk3
    have HG3 := Lib.hid hg3
    have HZ3 := Lib.hid hz3
    have HOFF := Lib.hid hoffA
    obtain ⟨z, hz⟩ : ∃ z, z = w2.heap.size := ⟨_, rfl⟩
    rw [← hz] at HS3 HZ3 HZ
    clear hoff hoffA hst hs2 hk3 hg3 hz3 f0 f1 hz gc0 gc1' HK2 HB2 hR2 hR1 HB1
    generalize w2.setCell ⟨h, 0, none⟩ (.slice A2 al.length c2) = w3 at HS3 HK3 HG3 HZ3 ⊢
    have hlen3 : al.length ≤ 60000 := by rw [HAL.out, List.length_append]; exact hlen
    go_wp2_with fail
    go_loopw [6] (RFeedRel w z h al) (fun _ wr => rMeas h wr)
    case atStart => exact ⟨al, [], _, HK3.out, HS3.out, HOFF.out, World.ownsRow_nil _ _ _ _, by simp, by simp, HG3.out, HZ3.out⟩
    case round =>
      obtain ⟨cur, done, va, hk, hs, ho, hown, hfe, hdl, hg, hzr⟩ := hrel
      have HK := Lib.hid hk
      have HS := Lib.hid hs
      have HO := Lib.hid ho
      have HOW := Lib.hid hown
      have HFE := Lib.hid hfe
      have HDL := Lib.hid hdl
      have HG := Lib.hid hg
      have HZR := Lib.hid hzr
      obtain ⟨_, Ac, cc, rfl, hcc, hcm, _, hcx⟩ := hs
      rw [bv_length] at hcc hcx HS HK HO hk
      obtain ⟨q, hq⟩ : ∃ q, q = cur.length := ⟨_, rfl⟩
      rw [← hq] at hcc hcx HS HK HO HDL hdl hk
      have HQ := Lib.hid hq
      have HCX := Lib.hid hcx
      have gc0 : wr.cell? ⟨h, 0, none⟩ = some (.slice Ac q cc) := hk.cell 0
      have hq6 : q ≤ 60000 := by omega
      have hd6 : done.length ≤ 60000 := by omega
      unfold maxLen at hcm
      clear hk ho hown hfe hdl hg hzr hq hcx
      go_wp2_with fail
      refine (rhead_any _ cur wr (HS.out.more HZR.out)).mono ?_
      rintro e w4 ⟨rfl, hb4⟩
      have HB4 := Lib.hid hb4
      have HK4 := Lib.hid (HK.out.below hb4 HK.out.lt)
      have HS4 := Lib.hid (HS.out.below (hb4.mono HZR.out))
      have HOW4 := Lib.hid (own_later' HOW.out hb4)
      have HG4 := Lib.hid (only_trans HG.out (only_of_below hb4 (some h)))
      have HZ4 := Lib.hid (Nat.le_trans HZR.out hb4.size)
      have gd0 : w4.cell? ⟨h, 0, none⟩ = some (.slice Ac q cc) := HK4.out.cell 0
      have gd1 : w4.cell? ⟨h, 1, none⟩ = some (.int .i64 0) := HK4.out.cell 1
      have gf0 : w4.frozen? ⟨h, 0, none⟩ = false := HK4.out.frozen 0
      have gf1 : w4.frozen? ⟨h, 1, none⟩ = false := HK4.out.frozen 1
      clear hb4
      by_cases e2 : headE cur = 2
      · rw [e2]
        have HFS := Lib.hid (feedL_short e2)
        clear e2
        go_wp2_with fail
        go_ret2
        exact rfeed_ret HK4.out HS4.out HO.out HOW4.out (by rw [← HAL.out, HFE.out, HFS.out]; simp) HG4.out HZ.out HZ4.out HH.out
      · by_cases e0 : headE cur = 0
        · obtain ⟨f0, f1, f2, f3⟩ := headE_ok e0
          obtain ⟨sz, hsz⟩ : ∃ sz : Nat, headN cur = sz := ⟨(headN cur).toNat, by omega⟩
          rw [e0, hsz]
          have hs8 : 8 ≤ sz := by omega
          have hs9 : sz ≤ 4096 := by omega
          have hq8 : 8 ≤ q := by rw [HQ.out]; exact f0
          clear e2 f0 f1 f2 f3
          by_cases hlt : q < sz
          · have HFS := Lib.hid (feedL_part e0 (by rw [hsz, ← HQ.out]; omega))
            have d1 : decide ((q : Int) < (sz : Int)) = true := by simp; omega
            clear e0 hsz
            go_wp2_with fail
            go_ret2
            exact rfeed_ret HK4.out HS4.out HO.out HOW4.out (by rw [← HAL.out, HFE.out, HFS.out]; simp) HG4.out HZ.out HZ4.out HH.out
          · have HFS := Lib.hid (feedL_msg e0 sz hsz (by rw [← HQ.out]; omega))
            have d1 : decide ((q : Int) < (sz : Int)) = false := by simp; omega
            obtain ⟨str, hstr⟩ : ∃ str, str = strB ((cur.take sz).drop 8) := ⟨_, rfl⟩
            rw [← hstr] at HFS
            have HSTR := Lib.hid hstr
            obtain ⟨bA, oA, hA, hBz, _⟩ := HCX.out (by omega)
            subst hA
            have hsn : SlN w4 z 1 (.slice (some ⟨bA, oA, none⟩) q cc) q (bv cur) := by have := HS4.out; unfold Sl at this; rw [bv_length, ← HQ.out] at this; exact this
            have HSN := Lib.hid hsn
            have hle : sz ≤ q := by omega
            clear e0 hsz hlt hstr hsn
            have HWZ : Hid (bA < z) := hBz
            have hpost : ∀ (w6 : World) (vl : Value) (va' : Value), (w6.ownsRow z 50 3 vl (done.length + 1) (rawCells done ++ [.int .i64 (headO cur), .int .i64 (headP cur), .string str]) ∧ Below z w4 w6) →
                (∀ w6, Below z w4 w6 → Sl w6 z va' (bv (cur.drop sz))) → (∀ g', g' < w.heap.size → Off va' g') → RFeedRel w z h al vl (w6.setCell ⟨h, 0, none⟩ va') := fun w6 vl va' hR hs ho =>
              rfeed_step hs8 (by rw [← HQ.out]; exact hle) (by rw [← HQ.out]; exact HDL.out) HFE.out HFS.out HK4.out HG4.out hR HZ.out HZ4.out (Nat.lt_of_lt_of_le HH.out HZ.out) HH.out (hs w6 hR.2) ho
            have HPOST := Lib.hid hpost
            clear hpost
            have HHZ : Hid (h < z) := Nat.lt_of_lt_of_le HH.out HZ.out
            have HNE : Hid (∀ g', g' < w.heap.size → bA ≠ g') := fun g' hg' e => HO.out g' hg' bA oA q cc rfl e
            have hcut := SlN.cut2_ HSN.out hs8 hle
            rw [← bv_take, ← bv_drop] at hcut
            have HCUT := Lib.hid hcut
            have htail := SlN.drop_ HSN.out hle
            rw [← bv_drop] at htail
            have HTAIL := Lib.hid htail
            have HOFF2 : Hid (∀ (o n c g' : Nat), g' < w.heap.size → Off (.slice (some ⟨bA, o, none⟩) n c) g') := fun o n c g' hg' b' o' n' c' hv hb => by cases hv; exact HNE.out g' hg' hb
            have HLAST : Hid (sz = q → cur.drop sz = []) := fun e => List.drop_eq_nil_of_le (by rw [← HQ.out, e]; exact Nat.le_refl _)
            clear hcut htail
            by_cases hc8 : cc = 8
            · obtain rfl : q = 8 := by omega
              obtain rfl : sz = 8 := by omega
              subst hc8
              have hcv := conv_str (w := w4) (v := .slice (some ⟨bA, oA, none⟩) 0 0) (bs := []) (n := 0) (B := 0) Tryd.underlying30 Tryd.underlying5 Tryd.underlying9 ⟨rfl, _, 0, rfl, Nat.le_refl _, by unfold maxLen; omega, (fun h => by cases h), fun h => absurd h (Nat.lt_irrefl _)⟩
              have hst2 : strB [] = str := by
                rw [HSTR.out]; congr 1
                symm; apply List.drop_eq_nil_of_le; rw [List.length_take]; omega
              rw [hst2] at hcv
              clear hst2
              go_upto_region 15 with (
                  at_builtin
                  refine wpList_app rfl _ _ _ _ rfl _ _ rfl rfl _ (raw_app2 (headO cur) (headP cur) str _ HOW4.out HZ4.out hd6) ?_
                  intro v6 w6 hR
                  have HK6 := Lib.hid (HK4.out.below hR.out.2 HHZ.out)
                  have f6 : w6.frozen? ⟨h, 0, none⟩ = false := HK6.out.frozen 0
                  have c6 : w6.cell? ⟨h, 0, none⟩ = some (.slice (some ⟨bA, oA, none⟩) _ _) := HK6.out.cell 0
                  obtain ⟨A6, c6', rfl⟩ := own_slice' hR.out.1)
              go_wp2_with fail
              case roundEnd =>
                refine ⟨HPOST.out _ _ _ hR.out (fun w6 _ => ?_) (HOFF2.out _ _ _), ?_⟩
                · rw [HLAST.out trivial]; exact SlN.toSl (n := 0) ⟨rfl, _, 0, rfl, Nat.le_refl _, by unfold maxLen; omega, (fun h => by cases h), fun h => absurd h (Nat.lt_irrefl _)⟩
                · rw [rMeas_eq gc0, rMeas_set HK6.out]; omega
            · have hcv := conv_str Tryd.underlying30 Tryd.underlying5 Tryd.underlying9 HCUT.out
              rw [← HSTR.out] at hcv
              by_cases hcs : cc = sz
              · obtain rfl : q = sz := by omega
                subst hcs
                go_upto_region 15 with (
                  at_builtin
                  refine wpList_app rfl _ _ _ _ rfl _ _ rfl rfl _ (raw_app2 (headO cur) (headP cur) str _ HOW4.out HZ4.out hd6) ?_
                  intro v6 w6 hR
                  have HK6 := Lib.hid (HK4.out.below hR.out.2 HHZ.out)
                  have f6 : w6.frozen? ⟨h, 0, none⟩ = false := HK6.out.frozen 0
                  have c6 : w6.cell? ⟨h, 0, none⟩ = some (.slice (some ⟨bA, oA, none⟩) _ _) := HK6.out.cell 0
                  obtain ⟨A6, c6', rfl⟩ := own_slice' hR.out.1)
                go_wp2_with fail
                case roundEnd =>
                  refine ⟨HPOST.out _ _ _ hR.out (fun w6 _ => ?_) (HOFF2.out _ _ _), ?_⟩
                  · rw [HLAST.out trivial]; exact SlN.toSl (n := 0) ⟨rfl, _, 0, rfl, Nat.le_refl _, by unfold maxLen; omega, (fun h => by cases h), fun h => absurd h (Nat.lt_irrefl _)⟩
                  · rw [rMeas_eq gc0, rMeas_set HK6.out]; omega
              · go_upto_region 15 with (
                  at_builtin
                  refine wpList_app rfl _ _ _ _ rfl _ _ rfl rfl _ (raw_app2 (headO cur) (headP cur) str _ HOW4.out HZ4.out hd6) ?_
                  intro v6 w6 hR
                  have HK6 := Lib.hid (HK4.out.below hR.out.2 HHZ.out)
                  have f6 : w6.frozen? ⟨h, 0, none⟩ = false := HK6.out.frozen 0
                  have c6 : w6.cell? ⟨h, 0, none⟩ = some (.slice (some ⟨bA, oA, none⟩) _ _) := HK6.out.cell 0
                  obtain ⟨A6, c6', rfl⟩ := own_slice' hR.out.1)
                go_wp2_with fail
                case roundEnd =>
                  refine ⟨HPOST.out _ _ _ hR.out (fun w6 hb => (SlN.below HTAIL.out hb).toSl) (HOFF2.out _ _ _), ?_⟩
                  rw [rMeas_eq gc0, rMeas_set HK6.out]; omega
        · obtain ⟨k, hk⟩ : ∃ k, k = headE cur := ⟨_, rfl⟩
          have HFS := Lib.hid (feedL_bad e0 e2)
          rw [← hk] at e0 e2 HFS ⊢
          have d1 : ((k : Int) == 2) = false := by simp; omega
          have d2 : ((k : Int) != 0) = true := by rw [bne_iff_ne]; omega
          clear hk e0 e2
          go_wp2_with fail
          go_ret2
          exact rfeed_retE HK4.out HOW4.out (by rw [← HAL.out, HFE.out, HFS.out]; simp) HG4.out HZ.out HH.out
  · have hf : Hid (fed left k b = ([], left, k)) := by show _ = _; unfold fed; rw [if_pos hk0]
    have HP := Lib.hid (Nat.pos_of_ne_zero hk0)
    have d1 : ((k : Int) != 0) = true := by rw [bne_iff_ne]; omega
    clear hl hb hs hk0
    go_enter Tryd.func33, Tryd.ntmps33
    go_wp2_with fail
    go_quiet (fail)
    all_goals (try go_wp2)
    all_goals go_ret2
    all_goals
      refine ⟨⟨.slice none 0 0, by rw [hf.out]; rfl, ?_, ?_, ?_⟩, fun h => absurd h (by have := HP.out; omega)⟩
      · rw [hf.out]; exact World.ownsRow_nil _ _ _ _
      · rw [hf.out]; exact HR.out
      · exact only_drewN (only_refl _ _) _
theorem rfeed_any (h : Nat) (left : List UInt8) (k : Nat) (vb : Value) (b : List UInt8) (w : World) (hr : RRs w h left k) (hb : Sl w w.heap.size vb (bv b)) (hl : k = 0 → left.length + b.length ≤ 60000) :
    Calls Tryd.prog 33 #[.pointer (some ⟨h, 0, none⟩), vb] w (RFeedPost h left k b w) :=
  (rfeed_any' h left k vb b w hr hb hl).mono fun _ _ h => h.1
end Go.Proofs.YtihbgkighckiiaaDoor
