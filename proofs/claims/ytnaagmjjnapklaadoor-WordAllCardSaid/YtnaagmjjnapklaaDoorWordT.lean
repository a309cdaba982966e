/- The contract of word.GetText. No condition. -/
import Derived.Test.YtnaagmjjnapklaaDoorWordH
import Derived.Test.YtnaagmjjnapklaaDoorIdx
namespace Go.Proofs.YtnaagmjjnapklaaDoor
open Go.RowKit
set_option maxRecDepth 100000

/-- A text that ends where its first byte 0 stands. -/
def textOk (l : List UInt8) : Prop := Lib.indexByte l 0 = (l.length : Int) - 1
noncomputable instance (l : List UInt8) : Decidable (textOk l) := Classical.propDecidable _
noncomputable def textE (bs : List UInt8) (at_ : Int) : Nat := if gotE bs at_ 1 ≠ 0 then gotE bs at_ 1 else if textOk (gotS bs at_) then 0 else 3
noncomputable def textR (A : Nat → Addr) (bs : List UInt8) (at_ : Int) : Value :=
  if textE bs at_ = 0 then .tuple #[.string (strB (gotS bs at_).dropLast), .int .i64 (gotN bs at_), .nilIface] else .tuple #[.string (strB []), .int .i64 0, errV A (textE bs at_)]

theorem gotS_length (bs : List UInt8) (at_ : Int) (least : Nat) (h : gotE bs at_ least = 0) : (gotS bs at_).length = (leV bs at_.toNat).toNat ∧ least ≤ (gotS bs at_).length ∧ (gotS bs at_).length ≤ 4096 ∧ gotN bs at_ ≤ bs.length := by
  unfold gotE at h
  split at h
  · omega
  · split at h
    · omega
    · split at h
      · omega
      · split at h
        · omega
        · have := fillN_ge (leV bs at_.toNat).toNat
          obtain ⟨l0, l1⟩ := leV_nonneg bs at_.toNat
          simp only [gotS, gotN, List.length_take, List.length_drop]
          omega

set_option maxHeartbeats 800000 in
theorem getText_any (A : Nat → Addr) (S : List Nat) (v : Value) (bs : List UInt8) (at_ : Int) (w : World) (h : Sl w w.heap.size v (bv bs)) (hE : Errs w w.heap.size S A) (h1 : 1 ∈ S) (h2 : 2 ∈ S) (h3 : 3 ∈ S) (h4 : 4 ∈ S) :
    Calls Tryd.prog 14 #[v, .int .i64 at_] w fun e w' => e = .returned (textR A bs at_) ∧ Below w.heap.size w w' := by
  have H := gets_any A S v bs at_ 1 w h hE h1 h2 h3 h4 (Nat.le_refl _)
  by_cases he : gotE bs at_ 1 = 0
  · obtain ⟨_, hlen, hlen2, _⟩ := gotS_length bs at_ 1 he
    rw [show gotR A bs at_ 1 = .tuple #[.string (strB (gotS bs at_)), .int .i64 (gotN bs at_), .nilIface] by rw [gotR, if_pos he]] at H
    have HH := Lib.hid H
    clear H
    obtain ⟨l, hl⟩ : ∃ l, l = gotS bs at_ := ⟨_, rfl⟩
    obtain ⟨n, hn⟩ : ∃ n : Nat, n = gotN bs at_ := ⟨_, rfl⟩
    have hle : (strB l).data.toList = l := strB_toList l
    have hsz : (strB l).size = l.length := strB_size l
    rw [← hl] at hlen hlen2
    have hcut : (strB l).extract 0 (l.length - 1) = strB l.dropLast := by
      rw [← strB_of ((strB l).extract 0 (l.length - 1)), Lib.extract_data, hle, List.dropLast_eq_take]
      simp
    by_cases hk : textOk l
    · have hR : textR A bs at_ = .tuple #[.string (strB l.dropLast), .int .i64 n, .nilIface] := by
        have e0 : textE bs at_ = 0 := by simp only [textE]; rw [if_neg (by omega), ← hl, if_pos hk]
        rw [textR, if_pos e0, ← hl, ← hn]
      rw [hR]
      have HI : Hid (Lib.indexByte (strB l).data.toList (0 : Int).toNat.toUInt8 = (l.length : Int) - 1) := by rw [hle]; exact hk
      have HS := Lib.hid hsz
      have HC := Lib.hid hcut
      have HHL := Lib.hid (And.intro hl hn)
      clear hR hk hl hn hle hsz hcut
      go_enter Tryd.func14, Tryd.ntmps14
      go_wp2_with fail
      refine HH.out.mono ?_
      rintro e w1 ⟨rfl, hb1⟩
      rw [← HHL.out.1, ← HHL.out.2]
      go_wp2_with fail
      refine (indexByte_any _ _ _).mono ?_
      rintro e w2 ⟨rfl, rfl⟩
      rw [HI.out]
      have hsz := HS.out
      go_wp2_with fail
      refine bodyPost_ret (results_tmp3 rfl _ _ _) rfl ?_
      exact ⟨by rw [← HC.out]; rfl, hb1⟩
    · have hR : textR A bs at_ = .tuple #[.string (strB []), .int .i64 0, .iface 70 (.pointer (some (A 3)))] := by
        have e0 : textE bs at_ = 3 := by simp only [textE]; rw [if_neg (by omega), ← hl, if_neg hk]
        rw [textR, if_neg (by omega), e0]; rfl
      rw [hR]
      obtain ⟨i, hi⟩ : ∃ i, i = Lib.indexByte (strB l).data.toList (0 : Int).toNat.toUInt8 := ⟨_, rfl⟩
      have hne : (i != (l.length : Int) - 1) = true := by
        rw [bne_iff_ne, hi, hle]; exact hk
      have HI := Lib.hid hi
      have HS := Lib.hid hsz
      have HHL := Lib.hid (And.intro hl hn)
      clear hR hk hl hn hle hsz hcut hi
      go_enter Tryd.func14, Tryd.ntmps14
      go_wp2_with fail
      refine HH.out.mono ?_
      rintro e w1 ⟨rfl, hb1⟩
      rw [← HHL.out.1, ← HHL.out.2]
      have c3 : w1.cell? ⟨2, 0, none⟩ = some (.iface 70 (.pointer (some (A 3)))) := (hE.below hb1).var h3
      clear hE
      go_wp2_with fail
      refine (indexByte_any _ _ _).mono ?_
      rintro e w2 ⟨rfl, rfl⟩
      rw [← HI.out]
      have hsz := HS.out
      go_wp2_with fail
      all_goals (go_quiet (fail))
      all_goals (try go_wp2)
      all_goals refine bodyPost_ret (results_tmp3 rfl _ _ _) rfl ?_
      all_goals exact ⟨rfl, below_drewN hb1 _⟩
  · have hp : 0 < gotE bs at_ 1 := by omega
    rw [show gotR A bs at_ 1 = .tuple #[.string (strB []), .int .i64 0, .iface 70 (.pointer (some (A (gotE bs at_ 1))))] by rw [gotR, if_neg he, errV_pos A hp]] at H
    have hR : textR A bs at_ = .tuple #[.string (strB []), .int .i64 0, .iface 70 (.pointer (some (A (gotE bs at_ 1))))] := by
      have e0 : textE bs at_ = gotE bs at_ 1 := by simp only [textE]; rw [if_pos he]
      rw [textR, e0, if_neg he, errV_pos A hp]
    rw [hR]
    have HH := Lib.hid H
    clear H hR he hp
    go_enter Tryd.func14, Tryd.ntmps14
    go_wp2_with fail
    refine HH.out.mono ?_
    rintro e w1 ⟨rfl, hb1⟩
    go_wp2
    refine bodyPost_ret (results_tmp3 rfl _ _ _) rfl ?_
    exact ⟨rfl, hb1⟩
end Go.Proofs.YtnaagmjjnapklaaDoor
