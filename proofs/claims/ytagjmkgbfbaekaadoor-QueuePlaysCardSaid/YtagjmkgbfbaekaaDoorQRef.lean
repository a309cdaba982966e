/- The contracts of the document's own queue (tableauref25). No condition. -/
import Derived.Test.YtagjmkgbfbaekaaDoorQueueL
namespace Go.Proofs.YtagjmkgbfbaekaaDoor
open Go.RowKit

/-- The document's queue at block h. -/
def RQIs (w : World) (h : Nat) (most : Int) (bs : List UInt8) (closed : Bool) : Prop := Blk w h 69 #[.int .i64 most, .string (strB bs), .bool closed]

theorem strB_app (a b : List UInt8) : strB a ++ strB b = strB (a ++ b) := by
  apply ByteArray.ext
  simp [strB]
theorem strB_extract (bs : List UInt8) (i j : Nat) : (strB bs).extract i j = strB ((bs.drop i).take (j - i)) := by
  apply ByteArray.ext
  simp [strB, ByteArray.data_extract, List.extract_toArray, List.extract_eq_take_drop]

set_option maxHeartbeats 400000 in
theorem rqnew_any (most : Int) (w : World) : Calls Tryd.prog 35 #[.int .i64 most] w fun e w' =>
    e = .returned (.pointer (some ⟨w.heap.size, 0, none⟩)) ∧ RQIs w' w.heap.size (max 0 (min most 16384)) [] false ∧ Below w.heap.size w w' := by
  have fin : ∀ m : Int, max 0 (min most 16384) = m → RQIs (w.alloc (.cells #[.int .i64 m, .string { data := #[] }, .bool false] 69)) w.heap.size (max 0 (min most 16384)) [] false := by
    intro m hm
    rw [hm]
    exact Blk.new _ _ _
  have HF := Lib.hid fin
  clear fin
  have hca : (16384 < most ∧ 0 < most) ∨ (0 < most ∧ most < 16384) ∨ most = 16384 ∨ most < 0 ∨ most = 0 := by omega
  rcases hca with ⟨h1, h2⟩ | ⟨h1, h2⟩ | rfl | h1 | rfl
  all_goals
    go_enter Tryd.func35, Tryd.ntmps35
    go_wp2
  all_goals go_ret
  all_goals exact ⟨rfl, HF.out _ (by omega), (Below.refl _ _).alloc (Nat.le_refl _) _⟩

set_option maxRecDepth 100000 in
set_option maxHeartbeats 800000 in
theorem rqput_any (h : Nat) (most : Int) (bs : List UInt8) (closed : Bool) (v : Value) (ys : List UInt8) (w : World) (hq : RQIs w h most bs closed) (hs : Sl w w.heap.size v (bv ys))
    (hb : bs.length ≤ 16384) (hm0 : 0 ≤ most) (hm : most ≤ 16384) (hy : ys.length ≤ 140737488355328) :
    Calls Tryd.prog 38 #[.pointer (some ⟨h, 0, none⟩), v] w fun e w' => e = .returned (.int .i64 (putK most bs ys closed)) ∧ RQIs w' h most (putB most bs ys closed) (putC most bs ys closed) ∧ w.grownBy w' (some h) := by
  have hg : Blk _ _ _ _ := hq
  have HQ := Lib.hid hq
  have hg0 := hg.cell 0
  have hg1 := hg.cell 1
  have hg2 := hg.cell 2
  have hf1 := hg.frozen 1
  have hf2 := hg.frozen 2
  simp at hg0 hg1 hg2
  obtain ⟨n, hn⟩ : ∃ n, n = ys.length := ⟨_, rfl⟩
  have hsN : SlN w w.heap.size 1 v n (bv ys) := by unfold Sl at hs; rwa [bv_length, ← hn] at hs
  obtain ⟨sY, hsY⟩ : ∃ s, s = strB ys := ⟨_, rfl⟩
  have hcv : ∀ N, (convert 31 9 v).run Tryd.prog (w.drewN N) = .ok (.string sY) (w.drewN N) := fun N => by
    rw [hsY]; exact conv_str (w := w.drewN N) Tryd.underlying31 Tryd.underlying5 Tryd.underlying9 hsN
  have hY : sY.size ≤ 140737488355328 := by rw [hsY, strB_size]; exact hy
  obtain ⟨_, YA, yc, rfl, hyc, hym, _, _⟩ := hsN
  obtain ⟨sB, hsB⟩ : ∃ s, s = strB bs := ⟨_, rfl⟩
  rw [← hsB] at hg1
  have hszB : sB.size = bs.length := by rw [hsB, strB_size]
  have hB8 : sB.size ≤ 16384 := by omega
  have HSB := Lib.hid (And.intro hsB (And.intro hsY (And.intro hszB hn)))
  have HG := Lib.hid hg
  rw [hn] at hyc
  clear hsY hsB hs hq hg
  rcases closed
  · by_cases hroom : most - bs.length < ys.length
    · have HP : Hid (putK most bs ys false = 14 ∧ putB most bs ys false = bs ∧ putC most bs ys false = true) := ⟨by simp [putK, hroom], by simp [putB, hroom], by simp [putC, hroom]⟩
      have hd : decide (most - (sB.size : Int) < (n : Int)) = true := by rw [hszB, hn]; simpa using hroom
      clear hszB hroom hcv hn
      go_enter Tryd.func38, Tryd.ntmps38
      go_wp2
      go_quiet (fail)
      all_goals (try go_wp2)
      all_goals go_ret
      rw [HP.out.1, HP.out.2.1, HP.out.2.2]
      exact ⟨rfl, by have := (HG.out.drewN nq).set_ 2 (.bool true); simpa [RQIs] using this, only_set (only_drewN (only_refl w (some h)) nq) 2 (.bool true)⟩
    · have HP : Hid (putK most bs ys false = 0 ∧ putB most bs ys false = bs ++ ys ∧ putC most bs ys false = false) := ⟨by simp [putK, hroom], by simp [putB, hroom], by simp [putC, hroom]⟩
      have hd : decide (most - (sB.size : Int) < (n : Int)) = false := by rw [hszB, hn]; simpa using hroom
      clear hszB hroom hn
      go_enter Tryd.func38, Tryd.ntmps38
      go_wp2
      go_quiet (fail)
      go_wp2_with fail
      have hcv1 := hcv (nq + 1)
      clear hcv
      go_region
      all_goals go_wp2
      all_goals go_ret
      rw [HP.out.1, HP.out.2.1, HP.out.2.2]
      have := (HG.out.drewN (nq + 1)).set_ 1 (.string (sB ++ sY))
      refine ⟨rfl, ?_, only_set (only_drewN (only_refl w (some h)) (nq + 1)) 1 _⟩
      rw [HSB.out.1, HSB.out.2.1, strB_app] at this ⊢
      simpa [RQIs] using this
  · have HP : Hid (putK most bs ys true = 15 ∧ putB most bs ys true = bs ∧ putC most bs ys true = true) := ⟨by simp [putK], by simp [putB], by simp [putC]⟩
    clear hszB hcv hn
    go_enter Tryd.func38, Tryd.ntmps38
    go_wp2
    go_ret
    rw [HP.out.1, HP.out.2.1, HP.out.2.2]
    exact ⟨rfl, HQ.out, only_refl _ _⟩

set_option maxRecDepth 100000 in
set_option maxHeartbeats 800000 in
theorem rqtake_any (h : Nat) (most : Int) (bs : List UInt8) (closed : Bool) (n : Int) (w : World) (hq : RQIs w h most bs closed) (hb : bs.length ≤ 16384) :
    Calls Tryd.prog 36 #[.pointer (some ⟨h, 0, none⟩), .int .i64 n] w fun e w' => e = .returned (.string (strB (bs.take n.toNat))) ∧ RQIs w' h most (bs.drop n.toNat) closed ∧ w.grownBy w' (some h) := by
  obtain ⟨k, hk⟩ : ∃ k : Nat, k = min n.toNat bs.length := ⟨_, rfl⟩
  have e1 : bs.take n.toNat = bs.take k := by rw [hk]; exact (List.take_eq_take_min ..)
  have e2 : bs.drop n.toNat = bs.drop k := by
    rw [hk]
    rcases Nat.le_total n.toNat bs.length with h | h
    · rw [Nat.min_eq_left h]
    · rw [Nat.min_eq_right h, List.drop_eq_nil_of_le h, List.drop_length]
  rw [e1, e2]
  have hkb : k ≤ bs.length := by omega
  have hkm : (k : Int) = max 0 (min n bs.length) := by omega
  have hg : Blk _ _ _ _ := hq
  have hg1 := hg.cell 1
  have hf1 := hg.frozen 1
  simp at hg1
  obtain ⟨sB, hsB⟩ : ∃ s, s = strB bs := ⟨_, rfl⟩
  rw [← hsB] at hg1
  have hszB : sB.size = bs.length := by rw [hsB, strB_size]
  have hB8 : sB.size ≤ 16384 := by omega
  have hkb2 : k ≤ sB.size := by omega
  have hca : ((sB.size : Int) < n ∧ k = sB.size ∧ 0 < k) ∨ (0 < n ∧ k = sB.size ∧ k = 0) ∨ (n = k ∧ 0 < k ∧ k < sB.size) ∨ (n = k ∧ 0 < k ∧ k = sB.size) ∨ (n < 0 ∧ k = 0) ∨ (n = 0 ∧ k = 0) := by omega
  have t1 : sB.extract 0 k = strB (bs.take k) := by rw [hsB, strB_extract]; simp
  have t2 : sB.extract k sB.size = strB (bs.drop k) := by
    rw [hszB, hsB, strB_extract, List.take_of_length_le (by rw [List.length_drop]; omega)]
  have HF : Hid (∀ (a c : ByteArray), a = sB.extract 0 k → c = sB.extract k sB.size → Ending.returned (.string a) = .returned (.string (strB (bs.take k))) ∧ RQIs (w.setCell ⟨h, 1, none⟩ (.string c)) h most (bs.drop k) closed ∧ w.grownBy (w.setCell ⟨h, 1, none⟩ (.string c)) (some h)) := by
    rintro a c rfl rfl
    rw [t1, t2]
    exact ⟨rfl, by simpa [RQIs] using hg.set_ 1 (.string (strB (bs.drop k))), only_set (only_refl _ _) 1 _⟩
  have hE0 : Hid (sB.extract 0 0 = ByteArray.empty ∧ sB.extract 0 sB.size = sB ∧ sB.extract sB.size sB.size = ByteArray.empty) := ⟨by simp, by simp, by simp⟩
  clear t1 t2 hkm hk e1 e2 hb hg hszB hkb hq hsB
  rcases hca with ⟨h1, h2, h3⟩ | ⟨h1, h2, h3⟩ | ⟨rfl, h3, h4⟩ | ⟨rfl, h3, h4⟩ | ⟨h1, h3⟩ | ⟨rfl, h3⟩
  all_goals
    go_enter Tryd.func36, Tryd.ntmps36
    go_wp2
  all_goals go_ret
  all_goals exact HF.out _ _ (by first | rfl | (rw [h2]; simp; done) | (rw [h3]; simp; done) | (rw [h4]; simp; done)) (by first | rfl | (rw [h2]; simp; done) | (rw [h3]; simp; done) | (rw [h4]; simp; done))
end Go.Proofs.YtagjmkgbfbaekaaDoor
