/- The walk over tableaulaw03.SigLetters (a closed statement). -/
import Derived.Test.YtagjmkgbfbaekaaDoorSigNames
namespace Go.Proofs.YtagjmkgbfbaekaaDoor
open Go.RowKit
set_option maxRecDepth 100000

def letters : List UInt8 := [105, 117, 102, 111, 110, 115, 97]
def letOk (f o : Nat) : Bool := ((reqAt f o).1.data.toList ++ (evAt f o).data.toList).all (letters.contains ·) && decide ((reqAt f o).1.size ≤ 100) && decide ((evAt f o).size ≤ 100)
theorem letOk_all : ((List.range 17).all fun f => (List.range 8).all fun o => letOk (f + 1) o) = true := by kernel_rfl
theorem letOk_at (f o : Nat) (h1 : 1 ≤ f) (h2 : f ≤ 17) (h3 : o < 8) : (∀ c ∈ (reqAt f o).1.data.toList ++ (evAt f o).data.toList, c ∈ letters) ∧ (reqAt f o).1.size ≤ 100 ∧ (evAt f o).size ≤ 100 := by
  have h := List.all_eq_true.1 letOk_all (f - 1) (List.mem_range.2 (by omega))
  have h' := List.all_eq_true.1 h o (List.mem_range.2 h3)
  have e : f - 1 + 1 = f := by omega
  rw [e] at h'
  simp only [letOk, Bool.and_eq_true, decide_eq_true_eq, List.all_eq_true] at h'
  exact ⟨fun c hc => by simpa using h'.1.1 c hc, h'.1.2, h'.2⟩

def FaceL (w : World) (a : Value) (wr : World) : Prop := ∃ f : Nat, 1 ≤ f ∧ f ≤ 18 ∧ a = .int .i64 f ∧ Below w.heap.size w wr
def OpL (w : World) (a : Value) (wr : World) : Prop := ∃ o : Nat, o ≤ 8 ∧ a = .int .i64 o ∧ Below w.heap.size w wr
def ByteL (n : Nat) (a : Value) : Prop := ∃ i : Nat, i ≤ n ∧ a = .int .i64 i

set_option maxHeartbeats 6400000 in
theorem letters_walk (A : Nat → Addr) (w : World) (hE : Errs w w.heap.size [6] A) :
    Calls Tryd.prog 10 #[] w fun e w' => e = .returned (.bool true) ∧ Below w.heap.size w w' := by
  have HE := Lib.hid hE
  clear hE
  go_enter Tryd.func10, Tryd.ntmps10
  go_wp2_with fail
  go_loopw [1] (FaceL w) (fun a _ => 18 - (intOf a).toNat)
  case atStart => exact ⟨1, by omega, by omega, rfl, Below.refl _ _⟩
  case round =>
    obtain ⟨f, hf1, hf2, rfl, hb⟩ := hrel
    have HB := Lib.hid hb
    clear hb
    by_cases hlt : f ≤ 17
    · go_wp2_with fail
      go_loopw [2] (OpL w) (fun a _ => 8 - (intOf a).toNat)
      case atStart => exact ⟨0, by omega, rfl, HB.out⟩
      case round =>
        obtain ⟨o, ho, rfl, hb⟩ := hrel
        have HB2 := Lib.hid hb
        clear hb
        by_cases hlo : o < 8
        · obtain ⟨l1, l2, l3⟩ := letOk_at f o hf1 hlt hlo
          go_wp2_with fail
          refine (request_any A [6] (by simp) f o wr (HE.out.to HB2.out HB2.out.size)).mono ?_
          rintro e w1 ⟨rfl, hb1⟩
          have HB3 := Lib.hid (HB2.out.trans (hb1.mono HB2.out.size))
          clear hb1
          obtain ⟨rs, hrs⟩ : ∃ rs, rs = (reqAt f o).1 := ⟨_, rfl⟩
          obtain ⟨ts, hts⟩ : ∃ ts, ts = evAt f o := ⟨_, rfl⟩
          rw [← hrs] at l1 l2 ⊢
          rw [← hts] at l1 l3
          have HTS := Lib.hid hts
          have HL := Lib.hid l1
          clear hrs hts l1
          go_wp2_with fail
          refine (event_any A [6] (by simp) f o w1 (HE.out.to HB3.out HB3.out.size)).mono ?_
          rintro e w2 ⟨rfl, hb2⟩
          have HB4 := Lib.hid (HB3.out.trans (hb2.mono HB3.out.size))
          clear hb2
          rw [← HTS.out]
          have hsz : (rs ++ ts).size = rs.size + ts.size := ByteArray.size_append
          have hel : Hid (∀ (i : Nat) (h : i < (rs ++ ts).size), (rs ++ ts)[i] ∈ letters) := fun i h => by
            refine HL.out _ ?_
            have e : rs.data.toList ++ ts.data.toList = (rs ++ ts).data.toList := by simp
            rw [e]
            have : (rs ++ ts)[i] = (rs ++ ts).data.toList[i]'(by rw [Array.length_toList]; exact h) := by rw [Array.getElem_toList]; rfl
            rw [this]
            exact List.getElem_mem _
          go_wp2_with fail
          go_loop [7] (ByteL (rs.size + ts.size)) (fun a => rs.size + ts.size - (intOf a).toNat)
          case atStart => exact ⟨0, Nat.zero_le _, rfl⟩
          case round =>
            obtain ⟨i, hi, rfl⟩ := hrel
            by_cases hli : i < rs.size + ts.size
            · have hi2 : i < (rs ++ ts).size := by omega
              have hm := hel.out i hi2
              obtain ⟨c, hc⟩ : ∃ c : Nat, c = (rs ++ ts)[i].toNat := ⟨_, rfl⟩
              have hcc : c = 105 ∨ c = 117 ∨ c = 102 ∨ c = 111 ∨ c = 110 ∨ c = 115 ∨ c = 97 := by
                simp only [letters, List.mem_cons, List.not_mem_nil, or_false] at hm
                rcases hm with hm | hm | hm | hm | hm | hm | hm <;> rw [hc, hm] <;> simp
              clear hm
              rcases hcc with rfl | rfl | rfl | rfl | rfl | rfl | rfl
              all_goals
                have hc' := hc.symm
                clear hc
                go_wp2_with fail
                go_round
                case rel => exact ⟨i + 1, by omega, by go_num⟩
                case measure => simp [intOf]; omega
            · go_wp2_with fail
              go_roundw
              case rel => exact ⟨o + 1, by omega, by go_num, HB4.out⟩
              case measure => simp [intOf]; omega
        · go_wp2_with fail
          go_roundw
          case rel => exact ⟨f + 1, by omega, by omega, by go_num, HB2.out⟩
          case measure => simp [intOf]; omega
    · go_wp2_with fail
      refine (sawake_any A [6] (by simp) wr (HE.out.to HB.out HB.out.size)).mono ?_
      rintro e w9 ⟨rfl, hb9⟩
      have HB9 := Lib.hid (HB.out.trans (hb9.mono HB.out.size))
      clear hb9
      go_wp2
      go_ret
      exact ⟨rfl, HB9.out⟩
end Go.Proofs.YtagjmkgbfbaekaaDoor
