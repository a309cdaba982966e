/- WordNumbers returns true for every input: numbers one behind the other are read at their places; behind the last one there is none. No condition but what the card lists. -/
import Derived.Test.YtnaagmjjnapklaaDoorEnc
import Derived.OpenShut
import Derived.Test.YtnaagmjjnapklaaDoorKind
import Derived.Test.YtnaagmjjnapklaaDoorFix
namespace Go.Proofs.YtnaagmjjnapklaaDoor
open Go.RowKit

/-- The numbers' bytes. -/
def cat4 (zs : List Int) : List UInt8 := zs.flatMap le4
theorem cat4_length (zs : List Int) : (cat4 zs).length = 4 * zs.length := by
  induction zs with
  | nil => rfl
  | cons z zs ih => simp only [cat4, List.flatMap_cons, List.length_append, le4_length, List.length_cons] at *; omega
theorem cat4_snoc (zs : List Int) (k : Nat) (h : k < zs.length) : cat4 (zs.take (k + 1)) = cat4 (zs.take k) ++ le4 zs[k] := by
  rw [List.take_succ_eq_append_getElem h, cat4, List.flatMap_append]; simp [cat4]
theorem cat4_at (zs : List Int) (k : Nat) (h : k < zs.length) (h0 : 0 ≤ zs[k]) (h1 : zs[k] < 4294967296) : leV (cat4 zs) (4 * k) = zs[k] := by
  have e : cat4 zs = cat4 (zs.take k) ++ (le4 zs[k] ++ cat4 (zs.drop (k + 1))) := by
    rw [← List.append_assoc, ← cat4_snoc zs k h, cat4, cat4, cat4, ← List.flatMap_append, List.take_append_drop]
  have hl : (cat4 (zs.take k)).length = 4 * k := by rw [cat4_length]; simp; omega
  rw [e, ← hl, leV_at _ _ _ h0 h1]
def NumRel (zs : List Int) (n : Nat) (w : World) (v i : Value) (wr : World) : Prop :=
  ∃ k : Nat, k ≤ n ∧ i = .int .i64 k ∧ Sl wr wr.heap.size v (bv (cat4 (zs.take k))) ∧ Below w.heap.size w wr
def NumRel2 (v : Value) (zs : List Int) (n : Nat) (w : World) (i : Value) (wr : World) : Prop :=
  ∃ k : Nat, k ≤ n ∧ i = .int .i64 k ∧ Sl wr wr.heap.size v (bv (cat4 zs)) ∧ Below w.heap.size w wr
theorem get_okI (v : Value) (bs : List UInt8) (a : Int) (k : Nat) (ha : a = k) (w : World) (h : Sl w w.heap.size v (bv bs)) (hat : k + 4 ≤ bs.length) :
    Calls Tryd.prog 9 #[v, .int .i64 a] w fun e w' => e = .returned (.tuple #[.int .u32 (leV bs k), .nilIface]) ∧ Below w.heap.size w w' := by subst ha; exact get_ok v bs k w h hat
theorem get_shortI (A : Nat → Addr) (S : List Nat) (v : Value) (bs : List UInt8) (a : Int) (k : Nat) (ha : a = k) (w : World) (h : Sl w w.heap.size v (bv bs)) (hE : Errs w w.heap.size S A) (h2 : 2 ∈ S) (hat : k ≤ bs.length) (hs : bs.length < k + 4) :
    Calls Tryd.prog 9 #[v, .int .i64 a] w fun e w' => e = .returned (.tuple #[.int .u32 0, .iface 70 (.pointer (some (A 2)))]) ∧ Below w.heap.size w w' := by subst ha; exact get_short A S v bs k w h hE h2 hat hs

set_option maxHeartbeats 3200000 in
theorem wordNumbersRow (A : Nat → Addr) (v : Value) (zs : List Int) (w : World) (hE : Errs w w.heap.size allErrs A) (h : Sl w w.heap.size v (zs.map (Value.int .u32)) ∧ (∀ n ∈ zs, (Lit.int .u32 n).wf = true) ∧ zs.length * 4 ≤ 140737488351232) :
    Calls Tryd.prog 3 #[v] w fun e w' => e = .returned (.bool true) ∧ Below w.heap.size w w' := by
  obtain ⟨h, hz, _⟩ := h
  have hz2 : ∀ (l : List Int), (∀ x ∈ l, x ∈ zs) → ∀ k (hk : k < l.length), 0 ≤ l[k] ∧ l[k] < 4294967296 := fun l hl k hk => by
    have := bounds_u32 (hz _ (hl _ (List.getElem_mem hk)))
    omega
  have HZ2 := Lib.hid hz2
  have HE := Lib.hid hE
  clear hz hz2 hE
  obtain ⟨_, Ad, c, hv, hc, hm, _, hx⟩ := h
  rw [List.length_map] at hv hc hx
  obtain ⟨n, hn⟩ : ∃ n, n = zs.length := ⟨_, rfl⟩
  rw [← hn] at hv hc hx
  subst hv
  unfold maxLen at hm
  have HN := Lib.hid hn
  clear hn
  by_cases h100 : 100 < n
  · have hd : decide (100 < (n : Int)) = true := by simp; omega
    have hlz : (zs.take 100).length = 100 := by have := HN.out; simp; omega
    have hsub : ∀ x ∈ zs.take 100, x ∈ zs := fun x hx => List.mem_of_mem_take hx
    have HX := Lib.hid hx
    have HZ : Hid ((zs.take 100).length = 100) := hlz
    have HB := Lib.hid (HZ2.out (zs.take 100) hsub)
    clear hx hlz hsub
    go_enter Tryd.func3, Tryd.ntmps3
    go_wp2_with fail
    go_loopw [3, 4] (NumRel (zs.take 100) 100 w) (fun _ i _ => 100 - (intOf i).toNat)
    case atStart => exact ⟨0, Nat.zero_le _, rfl, by simpa [cat4, bv] using Sl.nil_ w w.heap.size, Below.refl _ _⟩
    case round =>
      obtain ⟨k, hk, rfl, hsl, hb⟩ := hrel
      have hbs := hb.size
      have HS := Lib.hid hsl
      clear hsl
      by_cases hlt : k < 100
      · obtain ⟨b, off, rfl, hB, hx⟩ := HX.out (by omega)
        have hkz : k < (zs.take 100).length := by have := HZ.out; omega
        obtain ⟨y, hy⟩ : ∃ y, y = (zs.take 100)[k] := ⟨_, rfl⟩
        have hcr : wr.cell? ⟨b, off + k, none⟩ = some (.int .u32 y) := by
          rw [hy]
          refine (hb.cell (p := ⟨b, off + k, none⟩) hB).trans (hx k _ ?_)
          rw [List.getElem?_map, List.getElem?_eq_getElem (show k < zs.length by have := HN.out; omega)]; simp
        obtain ⟨y0, y1⟩ := HB.out k hkz
        rw [← hy] at y0 y1
        have HY := Lib.hid hy
        clear hx hy
        go_wp2_with fail
        refine (put_any _ _ _ _ HS.out (by rw [cat4_length]; simp; omega) y0 y1).mono ?_
        rintro e w2 ⟨v2, rfl, hown, hb2⟩
        have hs2 := Sl.of_own hown
        clear hown
        rw [HY.out, ← cat4_snoc (zs.take 100) k hkz] at hs2
        have HS2 := Lib.hid hs2
        clear hs2
        go_wp2_with fail
        go_roundw
        case rel => first | exact ⟨k + 1, by omega, by go_num, HS2.out, hb.trans (hb2.mono hbs)⟩ | ((repeat apply Exists.intro); exact ⟨⟨k + 1, by omega, by go_num, HS2.out, hb.trans (hb2.mono hbs)⟩, rfl⟩)
        case measure => simp [intOf]; omega
      · obtain rfl : k = 100 := by omega
        have hsl : Sl wr wr.heap.size u3 (bv (cat4 (zs.take 100))) := by
          have := HS.out
          rwa [List.take_of_length_le (by rw [HZ.out]; exact Nat.le_refl _)] at this
        have HS1 := Lib.hid hsl
        clear hsl HS
        go_wp2_with fail
        go_loopw [5] (NumRel2 u3 (zs.take 100) 100 w) (fun i _ => 100 - (intOf i).toNat)
        case atStart => exact ⟨0, Nat.zero_le _, rfl, HS1.out, hb⟩
        case round =>
          obtain ⟨k, hk, rfl, hsl, hb⟩ := hrel
          have hbs := hb.size
          have hcl : (cat4 (zs.take 100)).length = 4 * 100 := by rw [cat4_length, HZ.out]
          have HS2 := Lib.hid hsl
          have HCL := Lib.hid hcl
          clear hsl hcl
          by_cases hlt : k < 100
          · obtain ⟨b, off, rfl, hB, hx⟩ := HX.out (by omega)
            have hkz : k < (zs.take 100).length := by have := HZ.out; omega
            obtain ⟨y0, y1⟩ := HB.out k hkz
            have hle := cat4_at (zs.take 100) k hkz y0 y1
            obtain ⟨y, hy⟩ : ∃ y, y = (zs.take 100)[k] := ⟨_, rfl⟩
            have hcr : ∀ w2, Below w.heap.size w w2 → w2.cell? ⟨b, off + k, none⟩ = some (.int .u32 y) := fun w2 hb2 => by
              rw [hy]
              refine (hb2.cell (p := ⟨b, off + k, none⟩) hB).trans (hx k _ ?_)
              rw [List.getElem?_map, List.getElem?_eq_getElem (show k < zs.length by have := HN.out; omega)]; simp
            rw [← hy] at y0 y1 hle
            have HC := Lib.hid hcr
            have HLE := Lib.hid hle
            have hyy : (y != y) = false := by simp
            clear hx hy hcr hle
            go_wp2_with fail
            refine (get_okI _ _ _ (4 * k) (by omega) _ HS2.out (by rw [HCL.out]; omega)).mono ?_
            rintro e w2 ⟨rfl, hb2⟩
            rw [HLE.out]
            have hb3 := hb.trans (hb2.mono hbs)
            have hcr := HC.out w2 hb3
            go_wp2_with fail
            go_roundw
            case rel => first | exact ⟨k + 1, by omega, by go_num, (HS2.out.below hb2).more hb2.size, hb3⟩ | ((repeat apply Exists.intro); exact ⟨⟨k + 1, by omega, by go_num, (HS2.out.below hb2).more hb2.size, hb3⟩, rfl⟩)
            case measure => simp [intOf]; omega
          · obtain rfl : k = 100 := by omega
            have hE1 := HE.out.to hb hb.size
            go_wp2_with fail
            refine (get_shortI A allErrs _ _ _ (4 * 100) (by omega) _ HS2.out hE1 (mem_all 2 (by omega) (by omega)) (by rw [HCL.out]; omega) (by rw [HCL.out]; omega)).mono ?_
            rintro e w2 ⟨rfl, hb2⟩
            have hb3 := hb.trans (hb2.mono hbs)
            have hE2 := HE.out.to hb3 hb3.size
            go_wp2_with fail
            refine (get_arg A allErrs _ _ _ _ ((HS2.out.below hb2).more hb2.size) hE2 (mem_all 1 (by omega) (by omega)) (by rw [HCL.out]; omega)).mono ?_
            rintro e w3 ⟨rfl, hb4⟩
            have hb5 := hb3.trans (hb4.mono hb3.size)
            have hlv : ∃ A3 c3, u3 = .slice A3 (4 * 100) c3 := by
              obtain ⟨_, A3, c3, hv, _⟩ := HS2.out
              rw [bv_length, HCL.out] at hv
              exact ⟨A3, c3, hv⟩
            obtain ⟨A3, c3, rfl⟩ := hlv
            have hE3 := HE.out.to hb5 hb5.size
            go_wp2_with fail
            refine (kind_err A 2 (by omega) (by omega) _ hE3).mono ?_
            rintro e w4 ⟨rfl, hb6⟩
            have hb7 := hb5.trans (hb6.mono hb5.size)
            have hE4 := HE.out.to hb7 hb7.size
            go_wp2_with fail
            refine (kind_err A 1 (by omega) (by omega) _ hE4).mono ?_
            rintro e w5 ⟨rfl, hb8⟩
            have hb9 := hb7.trans (hb8.mono hb7.size)
            go_wp2_with fail
            refine (wawake_any _).mono ?_
            rintro e w6 ⟨rfl, hb10⟩
            go_wp2_with fail
            go_ret
            exact ⟨rfl, hb9.trans (hb10.mono hb9.size)⟩
  · have hd : decide (100 < (n : Int)) = false := by simp; omega
    have hlz : zs.length = n := HN.out.symm
    have hsub : ∀ x ∈ zs, x ∈ zs := fun x hx => hx
    have HX := Lib.hid hx
    have HZ : Hid ((zs).length = n) := hlz
    have HB := Lib.hid (HZ2.out (zs) hsub)
    clear hx hlz hsub
    go_enter Tryd.func3, Tryd.ntmps3
    go_wp2_with fail
    go_loopw [3, 4] (NumRel (zs) n w) (fun _ i _ => n - (intOf i).toNat)
    case atStart => exact ⟨0, Nat.zero_le _, rfl, by simpa [cat4, bv] using Sl.nil_ w w.heap.size, Below.refl _ _⟩
    case round =>
      obtain ⟨k, hk, rfl, hsl, hb⟩ := hrel
      have hbs := hb.size
      have HS := Lib.hid hsl
      clear hsl
      by_cases hlt : k < n
      · obtain ⟨b, off, rfl, hB, hx⟩ := HX.out (by omega)
        have hkz : k < (zs).length := by have := HZ.out; omega
        obtain ⟨y, hy⟩ : ∃ y, y = (zs)[k] := ⟨_, rfl⟩
        have hcr : wr.cell? ⟨b, off + k, none⟩ = some (.int .u32 y) := by
          rw [hy]
          refine (hb.cell (p := ⟨b, off + k, none⟩) hB).trans (hx k _ ?_)
          simp only [List.getElem?_map]; rw [List.getElem?_eq_getElem hkz]; rfl
        obtain ⟨y0, y1⟩ := HB.out k hkz
        rw [← hy] at y0 y1
        have HY := Lib.hid hy
        clear hx hy
        go_wp2_with fail
        refine (put_any _ _ _ _ HS.out (by rw [cat4_length]; simp; omega) y0 y1).mono ?_
        rintro e w2 ⟨v2, rfl, hown, hb2⟩
        have hs2 := Sl.of_own hown
        clear hown
        rw [HY.out, ← cat4_snoc (zs) k hkz] at hs2
        have HS2 := Lib.hid hs2
        clear hs2
        go_wp2_with fail
        go_roundw
        case rel => first | exact ⟨k + 1, by omega, by go_num, HS2.out, hb.trans (hb2.mono hbs)⟩ | ((repeat apply Exists.intro); exact ⟨⟨k + 1, by omega, by go_num, HS2.out, hb.trans (hb2.mono hbs)⟩, rfl⟩)
        case measure => simp [intOf]; omega
      · obtain rfl : n = k := by omega
        have hsl : Sl wr wr.heap.size u3 (bv (cat4 (zs))) := by
          have := HS.out
          rwa [List.take_of_length_le (by rw [HZ.out]; exact Nat.le_refl _)] at this
        have HS1 := Lib.hid hsl
        clear hsl HS
        go_wp2_with fail
        go_loopw [5] (NumRel2 u3 (zs) n w) (fun i _ => n - (intOf i).toNat)
        case atStart => exact ⟨0, Nat.zero_le _, rfl, HS1.out, hb⟩
        case round =>
          obtain ⟨k, hk, rfl, hsl, hb⟩ := hrel
          have hbs := hb.size
          have hcl : (cat4 (zs)).length = 4 * n := by rw [cat4_length, HZ.out]
          have HS2 := Lib.hid hsl
          have HCL := Lib.hid hcl
          clear hsl hcl
          by_cases hlt : k < n
          · obtain ⟨b, off, rfl, hB, hx⟩ := HX.out (by omega)
            have hkz : k < (zs).length := by have := HZ.out; omega
            obtain ⟨y0, y1⟩ := HB.out k hkz
            have hle := cat4_at (zs) k hkz y0 y1
            obtain ⟨y, hy⟩ : ∃ y, y = (zs)[k] := ⟨_, rfl⟩
            have hcr : ∀ w2, Below w.heap.size w w2 → w2.cell? ⟨b, off + k, none⟩ = some (.int .u32 y) := fun w2 hb2 => by
              rw [hy]
              refine (hb2.cell (p := ⟨b, off + k, none⟩) hB).trans (hx k _ ?_)
              simp only [List.getElem?_map]; rw [List.getElem?_eq_getElem hkz]; rfl
            rw [← hy] at y0 y1 hle
            have HC := Lib.hid hcr
            have HLE := Lib.hid hle
            have hyy : (y != y) = false := by simp
            clear hx hy hcr hle
            go_wp2_with fail
            refine (get_okI _ _ _ (4 * k) (by omega) _ HS2.out (by rw [HCL.out]; omega)).mono ?_
            rintro e w2 ⟨rfl, hb2⟩
            rw [HLE.out]
            have hb3 := hb.trans (hb2.mono hbs)
            have hcr := HC.out w2 hb3
            go_wp2_with fail
            go_roundw
            case rel => first | exact ⟨k + 1, by omega, by go_num, (HS2.out.below hb2).more hb2.size, hb3⟩ | ((repeat apply Exists.intro); exact ⟨⟨k + 1, by omega, by go_num, (HS2.out.below hb2).more hb2.size, hb3⟩, rfl⟩)
            case measure => simp [intOf]; omega
          · obtain rfl : n = k := by omega
            have hE1 := HE.out.to hb hb.size
            go_wp2_with fail
            refine (get_shortI A allErrs _ _ _ (4 * n) (by omega) _ HS2.out hE1 (mem_all 2 (by omega) (by omega)) (by rw [HCL.out]; omega) (by rw [HCL.out]; omega)).mono ?_
            rintro e w2 ⟨rfl, hb2⟩
            have hb3 := hb.trans (hb2.mono hbs)
            have hE2 := HE.out.to hb3 hb3.size
            go_wp2_with fail
            refine (get_arg A allErrs _ _ _ _ ((HS2.out.below hb2).more hb2.size) hE2 (mem_all 1 (by omega) (by omega)) (by rw [HCL.out]; omega)).mono ?_
            rintro e w3 ⟨rfl, hb4⟩
            have hb5 := hb3.trans (hb4.mono hb3.size)
            have hlv : ∃ A3 c3, u3 = .slice A3 (4 * n) c3 := by
              obtain ⟨_, A3, c3, hv, _⟩ := HS2.out
              rw [bv_length, HCL.out] at hv
              exact ⟨A3, c3, hv⟩
            obtain ⟨A3, c3, rfl⟩ := hlv
            have hE3 := HE.out.to hb5 hb5.size
            go_wp2_with fail
            refine (kind_err A 2 (by omega) (by omega) _ hE3).mono ?_
            rintro e w4 ⟨rfl, hb6⟩
            have hb7 := hb5.trans (hb6.mono hb5.size)
            have hE4 := HE.out.to hb7 hb7.size
            go_wp2_with fail
            refine (kind_err A 1 (by omega) (by omega) _ hE4).mono ?_
            rintro e w5 ⟨rfl, hb8⟩
            have hb9 := hb7.trans (hb8.mono hb7.size)
            go_wp2_with fail
            refine (wawake_any _).mono ?_
            rintro e w6 ⟨rfl, hb10⟩
            go_wp2_with fail
            go_ret
            exact ⟨rfl, hb9.trans (hb10.mono hb9.size)⟩
end Go.Proofs.YtnaagmjjnapklaaDoor
