/- The walk over tableaulaw04.WireAll. Printed by gen_wall.py. -/
import Derived.Test.YtihbgkighckiiaaDoorRWPut
import Derived.Test.YtihbgkighckiiaaDoorGet
import Derived.Test.YtihbgkighckiiaaDoorRGet
import Derived.Test.YtihbgkighckiiaaDoorFew
import Derived.Test.YtihbgkighckiiaaDoorRelG
import Derived.Test.YtihbgkighckiiaaDoorWOpen
import Derived.Test.YtihbgkighckiiaaDoorWAwake
import Derived.Test.YtihbgkighckiiaaDoorBytes
import Derived.Test.YtihbgkighckiiaaDoorHead
import Derived.Deep.CutBlock
import Derived.Deep.CutRange
namespace Go.Proofs.YtihbgkighckiiaaDoor
open Go.RowKit
set_option maxRecDepth 100000
set_option linter.unusedVariables false

def AllV (A : Nat → Addr) (o p ra rb hO hP hN : Int) (Va A9 A11 A13 A15 : Option Addr) (nl vc N9 c9 c11 n13 c13 c15 ce q1 q2 q3 : Nat) (sig XS : ByteArray) (i : Nat) : Value := ([.agg #[.int .i64 o, .int .i64 p, .slice Va nl vc], undef, .string sig, errV A ce, .int .i64 (ce : Nat), .agg #[.int .i64 o, .int .i64 p, .slice Va nl vc], .string sig, .int .i64 (ce : Nat), .bool true, .bool true, .slice A9 N9 c9, .string XS, .slice A11 N9 c11, .string XS, .bool true, .bool true, .bool true, errV A q1, .int .i64 (q1 : Nat), .int .i64 (q1 : Nat), .bool true, .bool true, .bool true, .agg #[.int .i64 ra, .int .i64 rb, .slice A13 n13 c13], .agg #[.int .i64 ra, .int .i64 rb, .slice A15 n13 c15], .bool true, .bool true, .bool true, errV A q2, .int .i64 (q2 : Nat), .int .i64 (q2 : Nat), .bool true, .bool true, .bool true, .int .i64 hO, .int .i64 hO, .bool true, .bool true, .bool true, .int .i64 hP, .int .i64 hP, .bool true, .bool true, .bool true, .int .i64 hN, .int .i64 hN, .bool true, .bool true, .bool true, errV A q3, .int .i64 (q3 : Nat), .int .i64 (q3 : Nat), .bool true, .bool true, .bool true, .bool true, .bool true, .bool true] : List Value).getD i undef
def AllR (A : Nat → Addr) (o p ra rb hO hP hN : Int) (Va A9 A11 A13 A15 : Option Addr) (nl vc N9 c9 c11 n13 c13 c15 ce q1 q2 q3 : Nat) (sig XS : ByteArray) (l : List ArgD) (i : Nat) (v : Value) (w : World) : Prop :=
  match i with
  | 1 => ∃ v', v = .agg #[.int .i64 o, .int .i64 p, v'] ∧ ArgsIs w v' l
  | j => v = AllV A o p ra rb hO hP hN Va A9 A11 A13 A15 nl vc N9 c9 c11 n13 c13 c15 ce q1 q2 q3 sig XS j
theorem all_keep {A : Nat → Addr} {o p ra rb hO hP hN : Int} {Va A9 A11 A13 A15 : Option Addr} {nl vc N9 c9 c11 n13 c13 c15 ce q1 q2 q3 : Nat} {sig XS : ByteArray} {l : List ArgD} {w w' : World} (hb : Below w.heap.size w w') (j : Nat) (u : Value) (h : AllR A o p ra rb hO hP hN Va A9 A11 A13 A15 nl vc N9 c9 c11 n13 c13 c15 ce q1 q2 q3 sig XS l j u w) : AllR A o p ra rb hO hP hN Va A9 A11 A13 A15 nl vc N9 c9 c11 n13 c13 c15 ce q1 q2 q3 sig XS l j u w' := by
  unfold AllR at h ⊢
  split at h
  · obtain ⟨v', h1, h2⟩ := h
    exact ⟨v', h1, h2.below hb⟩
  · exact h
theorem putE_le4 (o p : Int) (l : List ArgD) (sig : ByteArray) : putE o p l sig ≤ 4 := by unfold putE; split; split <;> omega; omega
theorem mgetE_le4 (o p : Int) (bs : List UInt8) (sig : ByteArray) : mgetE o p bs sig ≤ 4 := by
  unfold mgetE
  have h1 := getArgs_err_le bs sig.data.toList 0
  have h2 := checkE_le o p (getArgs bs sig.data.toList 0).2.1 sig
  split
  · exact h1
  · split <;> omega
def AllOk (l : List ArgD) (sig body : ByteArray) : Prop := FewOk l sig ∧ body.size ≤ 6000
def AllRel (w : World) (l : List ArgD) (sig body : ByteArray) (s : Value) (wc : World) : Prop := ∃ c, s = .bool c ∧ (c = false → AllOk l sig body) ∧ Below w.heap.size w wc
set_option maxHeartbeats 1600000 in
theorem wall_walk (A : Nat → Addr) (mv : Value) (x : Int × Int × Value × List ArgD) (sig : ByteArray) (rv : Value) (y : Int × Int × ByteArray) (bvv : Value) (bw : List UInt8) (w : World) (hE : Errs w w.heap.size allErrs A) (hm : mv = .agg #[.int .i64 x.1, .int .i64 x.2.1, x.2.2.1] ∧ ArgsIs w x.2.2.1 x.2.2.2) (hsz : sig.size ≤ 140737488351232)
    (hr : rv = .agg #[.int .i64 y.1, .int .i64 y.2.1, .string y.2.2]) (hbv : Sl w w.heap.size bvv (bv bw) ∧ bw.length ≤ 140737488351232) :
    Calls Tryd.prog 7 #[mv, .string sig, rv, bvv] w fun e w' => e = .returned (.bool true) ∧ Below w.heap.size w w' := by
  obtain ⟨o, p, va, l⟩ := x
  obtain ⟨ro, rp, body⟩ := y
  obtain ⟨rfl, hargs⟩ := hm
  subst hr
  simp only at hargs ⊢
  obtain ⟨hbv, hbl⟩ := hbv
  have HBW := Lib.hid hbv
  have HBL := Lib.hid hbl
  have HE := Lib.hid hE
  have H1 : (1 : Nat) ∈ allErrs := mem_all 1 (by omega) (by omega)
  have H2 : (2 : Nat) ∈ allErrs := mem_all 2 (by omega) (by omega)
  have H3 : (3 : Nat) ∈ allErrs := mem_all 3 (by omega) (by omega)
  have H4 : (4 : Nat) ∈ allErrs := mem_all 4 (by omega) (by omega)
  have HAR := Lib.hid hargs
  obtain ⟨_, Va, vc, rfl, _⟩ := hargs
  obtain ⟨nl, hnl⟩ : ∃ nl, nl = l.length := ⟨_, rfl⟩
  rw [← hnl] at HAR ⊢
  have HNL := Lib.hid hnl
  have hb1 : Below w.heap.size w ((w.alloc (.cells #[.int .i64 o, .int .i64 p, .slice Va nl vc] 29)).alloc (.cells #[.int .i64 ro, .int .i64 rp, .string body] 50)) := ((Below.refl _ _).alloc (Nat.le_refl _) _).alloc (by simp) _
  have hk1 : Blk ((w.alloc (.cells #[.int .i64 o, .int .i64 p, .slice Va nl vc] 29)).alloc (.cells #[.int .i64 ro, .int .i64 rp, .string body] 50)) w.heap.size 29 #[.int .i64 o, .int .i64 p, .slice Va nl vc] := (Blk.new _ _ _).alloc _
  have hr1 : Blk ((w.alloc (.cells #[.int .i64 o, .int .i64 p, .slice Va nl vc] 29)).alloc (.cells #[.int .i64 ro, .int .i64 rp, .string body] 50)) (w.heap.size + 1) 50 #[.int .i64 ro, .int .i64 rp, .string body] := by
    have := Blk.new (w.alloc (.cells #[.int .i64 o, .int .i64 p, .slice Va nl vc] 29)) 50 #[.int .i64 ro, .int .i64 rp, .string body]
    rwa [World.size_alloc] at this
  have HB1 := Lib.hid hb1
  have HK1 := Lib.hid hk1
  have HR1 := Lib.hid hr1
  clear hE hnl hb1 hk1 hr1 hsz hbv hbl
  go_enter Tryd.func7, Tryd.ntmps7
  go_upto_region 1 with (fail)
  obtain ⟨g, hg⟩ : ∃ g, g = w.heap.size := ⟨_, rfl⟩
  rw [← hg] at HK1 HR1 ⊢
  clear hg
  generalize (w.alloc (.cells #[.int .i64 o, .int .i64 p, .slice Va nl vc] 29)).alloc (.cells #[.int .i64 ro, .int .i64 rp, .string body] 50) = w1 at HB1 HK1 HR1 ⊢
  have c0 : w1.cell? ⟨g, 0, none⟩ = some (.int .i64 o) := HK1.out.cell 0
  have c1 : w1.cell? ⟨g, 1, none⟩ = some (.int .i64 p) := HK1.out.cell 1
  have c2 : w1.cell? ⟨g, 2, none⟩ = some (.slice Va nl vc) := HK1.out.cell 2
  have HA1 := Lib.hid (HAR.out.below HB1.out)
  go_cut [34] from 25 to 34 (fun s34 wc => AllRel w1 l sig body s34 wc)
  case first =>
    go_wp2_with fail
    refine (few_any o p _ l sig w1 HA1.out).mono ?_
    rintro e w2 ⟨b, rfl, hfew, hb2⟩
    have HR2 := Lib.hid (HR1.out.below hb2 HR1.out.lt)
    have r2 : w2.cell? ⟨g + 1, 2, none⟩ = some (.string body) := HR2.out.cell 2
    have HB2 := Lib.hid hb2
    have HFEW := Lib.hid hfew
    clear hb2 hfew c0 c1 c2
    cases b with
    | false =>
      go_wp2_with fail
      go_meet
      exact ⟨true, rfl, (fun h => by cases h), HB2.out⟩
    | true =>
      by_cases q1 : 6000 < body.size
      · have d1 : decide (6000 < (body.size : Int)) = true := by simp; omega
        go_wp2_with fail
        go_meet
        exact ⟨true, rfl, (fun h => by cases h), HB2.out⟩
      · have d1 : decide (6000 < (body.size : Int)) = false := by simp; omega
        have HOK : Hid (AllOk l sig body) := ⟨HFEW.out rfl, by omega⟩
        clear q1
        go_wp2_with fail
        go_meet
        exact ⟨false, rfl, fun _ => HOK.out, HB2.out⟩
  case rest =>
    obtain ⟨b, rfl, hok, hb2⟩ := hcut
    have HB2 := Lib.hid (HB1.out.trans (hb2.mono HB1.out.size))
    have HK2 := Lib.hid (HK1.out.below hb2 HK1.out.lt)
    have HR2 := Lib.hid (HR1.out.below hb2 HR1.out.lt)
    have HA2 := Lib.hid (HA1.out.below hb2)
    have HOK := Lib.hid hok
    clear hb2 hok c0 c1 c2
    cases b with
    | true =>
      go_wp2_with fail
      refine (w4awake_any A allErrs H1 H4 wc (HE.out.to HB2.out HB2.out.size)).mono ?_
      rintro e w3 ⟨rfl, hb3⟩
      go_wp2
      go_ret
      exact ⟨rfl, HB2.out.trans (hb3.mono HB2.out.size)⟩
    | false =>
      obtain ⟨⟨hl30, hs30, hx60⟩, hbody⟩ := HOK.out rfl
      have HFIT : Hid (Fit l) := fun x hx => by have := hx60 x hx; omega
      have HSIG : Hid (sig.size ≤ 60000) := by show _ ≤ _; omega
      have HBODY := Lib.hid hbody
      clear hx60 hbody
      have c0 : wc.cell? ⟨g, 0, none⟩ = some (.int .i64 o) := HK2.out.cell 0
      have c1 : wc.cell? ⟨g, 1, none⟩ = some (.int .i64 p) := HK2.out.cell 1
      have c2 : wc.cell? ⟨g, 2, none⟩ = some (.slice Va nl vc) := HK2.out.cell 2
      go_wp2_with fail
      refine (msg_any o p _ l wc HA2.out (by omega)).mono ?_
      rintro e w3 ⟨v', rfl, ha3, hb3⟩
      have HB3 := Lib.hid (HB2.out.trans (hb3.mono HB2.out.size))
      have HK3 := Lib.hid (HK2.out.below hb3 HK2.out.lt)
      have HR3 := Lib.hid (HR2.out.below hb3 HR2.out.lt)
      have HAO3 := Lib.hid (HA2.out.below hb3)
      have HA3 := Lib.hid ha3
      clear ha3 hb3 c0 c1 c2
      go_wp2_with fail
      refine (wput_any A allErrs H1 H4 o p v' l sig w3 (HE.out.to HB3.out HB3.out.size) HA3.out HFIT.out (by omega) (by omega)).mono ?_
      rintro e w4 ⟨v9, rfl, hs9, hb4⟩
      have HB4 := Lib.hid (HB3.out.trans (hb4.mono HB3.out.size))
      have HK4 := Lib.hid (HK3.out.below hb4 HK3.out.lt)
      have HR4 := Lib.hid (HR3.out.below hb4 HR3.out.lt)
      have HA4 := Lib.hid (HAO3.out.below hb4)
      have hs9' : SlN w4 w4.heap.size 1 v9 (putR o p l sig).length (bv (putR o p l sig)) := by have := hs9; unfold Sl at this; rw [bv_length] at this; exact this
      have HS9a := Lib.hid hs9'
      obtain ⟨A9, c9, rfl⟩ : ∃ A c, v9 = .slice A (putR o p l sig).length c := by obtain ⟨_, A, c, h, _⟩ := hs9'; exact ⟨A, c, h⟩
      obtain ⟨q1, hq1⟩ : ∃ q, q = putE o p l sig := ⟨_, rfl⟩
      rw [← hq1]
      have HQ1 := Lib.hid hq1
      have c0 : w4.cell? ⟨g, 0, none⟩ = some (.int .i64 o) := HK4.out.cell 0
      have c1 : w4.cell? ⟨g, 1, none⟩ = some (.int .i64 p) := HK4.out.cell 1
      have c2 : w4.cell? ⟨g, 2, none⟩ = some (.slice Va nl vc) := HK4.out.cell 2
      clear hb4 hs9 hs9' hq1
      go_wp2_with fail
      refine (rwput_any o p _ l sig w4 HA4.out HFIT.out (by omega) (by omega)).mono ?_
      rintro e w5 ⟨v11, rfl, hs11, hb5⟩
      rw [← HQ1.out]
      have HB5 := Lib.hid (HB4.out.trans (hb5.mono HB4.out.size))
      have HK5 := Lib.hid (HK4.out.below hb5 HK4.out.lt)
      have HR5 := Lib.hid (HR4.out.below hb5 HR4.out.lt)
      have HA5 := Lib.hid (HA4.out.below hb5)
      have HS9b := Lib.hid (SlN.more (SlN.below HS9a.out hb5) hb5.size)
      have hs11' : SlN w5 w5.heap.size 1 v11 (putR o p l sig).length (bv (putR o p l sig)) := by have := hs11; unfold Sl at this; rw [bv_length] at this; exact this
      have HS11a := Lib.hid hs11'
      obtain ⟨A11, c11, rfl⟩ : ∃ A c, v11 = .slice A (putR o p l sig).length c := by obtain ⟨_, A, c, h, _⟩ := hs11'; exact ⟨A, c, h⟩
      obtain ⟨N9, hN9⟩ : ∃ N, N = (putR o p l sig).length := ⟨_, rfl⟩
      rw [← hN9] at HS9b HS11a ⊢
      obtain ⟨XS, hXS⟩ : ∃ XS, XS = strB (putR o p l sig) := ⟨_, rfl⟩
      have HXS := Lib.hid hXS
      obtain ⟨bs, HBS⟩ : ∃ bs, Hid (body.data.toList = bs) := ⟨_, rfl⟩
      have HE5 := Lib.hid (HE.out.to HB5.out HB5.out.size)
      have r0 : w5.cell? ⟨g + 1, 0, none⟩ = some (.int .i64 ro) := HR5.out.cell 0
      have r1 : w5.cell? ⟨g + 1, 1, none⟩ = some (.int .i64 rp) := HR5.out.cell 1
      have r2 : w5.cell? ⟨g + 1, 2, none⟩ = some (.string body) := HR5.out.cell 2
      clear hb5 hs11 hs11' hN9 hXS c0 c1 c2
      go_wp2_with fail
      refine (wget_any A allErrs H1 H2 H3 H4 ro rp body sig bs HBS.out w5 HE5.out (by have := HBODY.out; omega) HSIG.out).mono ?_
      rintro e w6 ⟨v13, rfl, hown, hb6⟩
      obtain ⟨q2, hq2⟩ : ∃ q, q = mgetE ro rp bs sig := ⟨_, rfl⟩
      obtain ⟨L13, hL⟩ : ∃ L, L = mgetL ro rp bs sig := ⟨_, rfl⟩
      rw [← hq2]
      rw [← hL] at hown
      obtain ⟨ra, hra⟩ : ∃ ra : Int, ra = if q2 = 0 then ro else 0 := ⟨_, rfl⟩
      obtain ⟨rb, hrb⟩ : ∃ rb : Int, rb = if q2 = 0 then rp else 0 := ⟨_, rfl⟩
      rw [← hra, ← hrb]
      have HQ2 := Lib.hid hq2
      have HL := Lib.hid hL
      have HRA := Lib.hid hra
      have HRB := Lib.hid hrb
      obtain ⟨n13, hn13⟩ : ∃ n, n = L13.length := ⟨_, rfl⟩
      obtain ⟨A13, c13, rfl⟩ := own_slice' hown
      have HO6 := Lib.hid (SlN.of_own hown)
      rw [← hn13] at HO6 ⊢
      have HN13 := Lib.hid hn13
      have HB6 := Lib.hid (HB5.out.trans (hb6.mono HB5.out.size))
      have HK6 := Lib.hid (HK5.out.below hb6 HK5.out.lt)
      have HR6 := Lib.hid (HR5.out.below hb6 HR5.out.lt)
      have HA6 := Lib.hid (HA5.out.below hb6)
      have HS9c := Lib.hid (SlN.more (SlN.below HS9b.out hb6) hb6.size)
      have HS11c := Lib.hid (SlN.more (SlN.below HS11a.out hb6) hb6.size)
      clear hq2 hL hra hrb hown hn13 hb6 r0 r1 r2
      -- the first result's block
      have hb7 : Below w6.heap.size w6 (w6.alloc (.cells #[.int .i64 ra, .int .i64 rb, .slice A13 n13 c13] 29)) := (Below.refl _ _).alloc (Nat.le_refl _) _
      have hx7 : Blk (w6.alloc (.cells #[.int .i64 ra, .int .i64 rb, .slice A13 n13 c13] 29)) w6.heap.size 29 #[.int .i64 ra, .int .i64 rb, .slice A13 n13 c13] := Blk.new _ _ _
      have HB7 := Lib.hid (HB6.out.trans (hb7.mono HB6.out.size))
      have HK7 := Lib.hid (HK6.out.below hb7 HK6.out.lt)
      have HR7 := Lib.hid (HR6.out.below hb7 HR6.out.lt)
      have HA7 := Lib.hid (HA6.out.below hb7)
      have HO7 := Lib.hid (SlN.more (SlN.below HO6.out hb7) hb7.size)
      have HS9d := Lib.hid (SlN.more (SlN.below HS9c.out hb7) hb7.size)
      have HS11d := Lib.hid (SlN.more (SlN.below HS11c.out hb7) hb7.size)
      have HX7 := Lib.hid hx7
      have hgl : Hid (g + 1 < w6.heap.size) := HR6.out.lt
      clear hb7 hx7
      go_upto_region 6 with (fail)
      obtain ⟨g13, hg13⟩ : ∃ g13, g13 = w6.heap.size := ⟨_, rfl⟩
      rw [← hg13] at HX7 ⊢
      clear hg13 hgl
      generalize w6.alloc (.cells #[.int .i64 ra, .int .i64 rb, .slice A13 n13 c13] 29) = w7 at HB7 HK7 HR7 HA7 HO7 HS9d HS11d HX7 ⊢
      have r0 : w7.cell? ⟨g + 1, 0, none⟩ = some (.int .i64 ro) := HR7.out.cell 0
      have r1 : w7.cell? ⟨g + 1, 1, none⟩ = some (.int .i64 rp) := HR7.out.cell 1
      have r2 : w7.cell? ⟨g + 1, 2, none⟩ = some (.string body) := HR7.out.cell 2
      go_wp2_with fail
      refine (rmget_any ro rp body sig bs HBS.out w7 (by have := HBODY.out; omega) HSIG.out).mono ?_
      rintro e w8 ⟨v15, rfl, hown, hb8⟩
      rw [← HQ2.out, ← HRA.out, ← HRB.out]
      rw [← HL.out] at hown
      obtain ⟨A15, c15, rfl⟩ := own_slice' hown
      have HO8 := Lib.hid (SlN.of_own hown)
      rw [← HN13.out] at HO8 ⊢
      have HB8 := Lib.hid (HB7.out.trans (hb8.mono HB7.out.size))
      have HK8 := Lib.hid (HK7.out.below hb8 HK7.out.lt)
      have HA8 := Lib.hid (HA7.out.below hb8)
      have HX8 := Lib.hid (HX7.out.below hb8 HX7.out.lt)
      have HP8 := Lib.hid (SlN.more (SlN.below HO7.out hb8) hb8.size)
      have HS9e := Lib.hid (SlN.more (SlN.below HS9d.out hb8) hb8.size)
      have HS11e := Lib.hid (SlN.more (SlN.below HS11d.out hb8) hb8.size)
      clear hown hb8 r0 r1 r2
      have hb9 : Below w8.heap.size w8 (w8.alloc (.cells #[.int .i64 ra, .int .i64 rb, .slice A15 n13 c15] 29)) := (Below.refl _ _).alloc (Nat.le_refl _) _
      have hx9 : Blk (w8.alloc (.cells #[.int .i64 ra, .int .i64 rb, .slice A15 n13 c15] 29)) w8.heap.size 29 #[.int .i64 ra, .int .i64 rb, .slice A15 n13 c15] := Blk.new _ _ _
      have HB9 := Lib.hid (HB8.out.trans (hb9.mono HB8.out.size))
      have HK9 := Lib.hid (HK8.out.below hb9 HK8.out.lt)
      have HA9 := Lib.hid (HA8.out.below hb9)
      have HX9 := Lib.hid (HX8.out.below hb9 HX8.out.lt)
      have HY9 := Lib.hid hx9
      have HP9 := Lib.hid (SlN.more (SlN.below HP8.out hb9) hb9.size)
      have HO9 := Lib.hid (SlN.more (SlN.below HO8.out hb9) hb9.size)
      have HS9f := Lib.hid (SlN.more (SlN.below HS9e.out hb9) hb9.size)
      have HS11f := Lib.hid (SlN.more (SlN.below HS11e.out hb9) hb9.size)
      clear hb9 hx9
      go_upto_region 7 with (fail)
      obtain ⟨g15, hg15⟩ : ∃ g15, g15 = w8.heap.size := ⟨_, rfl⟩
      rw [← hg15] at HY9 ⊢
      clear hg15
      generalize w8.alloc (.cells #[.int .i64 ra, .int .i64 rb, .slice A15 n13 c15] 29) = w9 at HB9 HK9 HA9 HX9 HY9 HP9 HO9 HS9f HS11f ⊢
      have HV9 := Lib.hid ((HBW.out.below HB9.out).more HB9.out.size)
      go_wp2_with fail
      refine (bytes_any _ bw w9 HV9.out (by have := HBL.out; omega)).mono ?_
      rintro e w10 ⟨vb, rfl, hownb, hb10⟩
      have HB10 := Lib.hid (HB9.out.trans (hb10.mono HB9.out.size))
      have HV10 := Lib.hid (Sl.of_own hownb)
      have HB910 := Lib.hid hb10
      clear hownb hb10
      go_wp2_with fail
      refine (head_any A allErrs _ bw w10 HV10.out (HE.out.to HB10.out HB10.out.size) H2 H3 H4).mono ?_
      rintro e w11 ⟨rfl, hb11⟩
      have HB11 := Lib.hid (HB10.out.trans (hb11.mono HB10.out.size))
      have HB911 := Lib.hid (HB910.out.trans (hb11.mono HB910.out.size))
      have HV11 := Lib.hid ((HV9.out.below HB911.out).more HB911.out.size)
      obtain ⟨hO, hhO⟩ : ∃ h, h = headO bw := ⟨_, rfl⟩
      obtain ⟨hP, hhP⟩ : ∃ h, h = headP bw := ⟨_, rfl⟩
      obtain ⟨hN, hhN⟩ : ∃ h, h = headN bw := ⟨_, rfl⟩
      obtain ⟨q3, hq3⟩ : ∃ h, h = headE bw := ⟨_, rfl⟩
      rw [← hhO, ← hhP, ← hhN, ← hq3]
      have HHO := Lib.hid hhO
      have HHP := Lib.hid hhP
      have HHN := Lib.hid hhN
      have HQ3 := Lib.hid hq3
      clear hb11 hhO hhP hhN hq3
      go_wp2_with fail
      refine (rhead_any _ bw w11 HV11.out).mono ?_
      rintro e w12 ⟨rfl, hb12⟩
      rw [← HHO.out, ← HHP.out, ← HHN.out, ← HQ3.out]
      have hb912 := HB911.out.trans (hb12.mono HB911.out.size)
      have HB12 := Lib.hid (HB11.out.trans (hb12.mono HB11.out.size))
      have HBm := Lib.hid (HK9.out.below hb912 HK9.out.lt)
      have HBx := Lib.hid (HX9.out.below hb912 HX9.out.lt)
      have HBy := Lib.hid (HY9.out.below hb912 HY9.out.lt)
      have HAl := Lib.hid (HA9.out.below hb912)
      have HA13 : Hid (ArgsIs w12 (.slice A13 n13 c13) L13) := by
        have := SlN.more (SlN.below HP9.out hb912) hb912.size
        unfold ArgsIs; rw [← HN13.out]; exact this
      have HA15 : Hid (ArgsIs w12 (.slice A15 n13 c15) L13) := by
        have := SlN.more (SlN.below HO9.out hb912) hb912.size
        unfold ArgsIs; rw [← HN13.out]; exact this
      have HS9 := Lib.hid (SlN.more (SlN.below HS9f.out hb912) hb912.size)
      have HS11 := Lib.hid (SlN.more (SlN.below HS11f.out hb912) hb912.size)
      have HEx := Lib.hid (HE.out.to HB12.out HB12.out.size)
      obtain ⟨ce, hce⟩ : ∃ ce, ce = checkE o p l sig := ⟨_, rfl⟩
      have hce1 : ce ≤ 16 := by rw [hce]; have := checkE_le o p l sig; omega
      have hq1 : q1 ≤ 16 := by rw [HQ1.out]; have := putE_le4 o p l sig; omega
      have hq2 : q2 ≤ 16 := by rw [HQ2.out]; have := mgetE_le4 ro rp bs sig; omega
      have hq3 : q3 ≤ 16 := by rw [HQ3.out]; exact headE_le bw
      have HCE := Lib.hid hce
      clear hb12 hb912 hce
      clear HS9a HS9b HS9c HS9d HS9e HS9f HS11a HS11c HS11d HS11e HS11f HK1 HK2 HK3 HK4 HK5 HK6 HK7 HK8 HR1 HR2 HR3 HR4 HR5 HR6 HR7 HA1 HA2 HA3 HAO3 HA4 HA5 HA6 HA7 HA8 HB1 HB2 HB3 HB4 HB5 HB6 HB7 HB8 HB9 HB10 HB11 HB910 HB911 HX7 HX8 HO6 HO7 HO8 HP8 HV9 HV10 HV11 HOK HE5
      go_upto_region 9 with (fail)
      have hfn : ∀ f : FuncId, (f = 22 ∨ f = 14 ∨ f = 18 ∨ f = 28 ∨ f = 29 ∨ f = 15) → ∀ args w, (callFunc f args).run Tryd.prog w = .ok (.enter f args) w := by
        rintro f (rfl | rfl | rfl | rfl | rfl | rfl) args w <;> kernel_rfl
      refine wp_region_rel (fun w' => Below w12.heap.size w12 w') (AllR A o p ra rb hO hP hN Va A9 A11 A13 A15 nl vc N9 c9 c11 n13 c13 c15 ce q1 q2 q3 sig XS l) (by kernel_rfl) (by kernel_rfl) (by kernel_rfl) (below_drewN (Below.refl _ _) 1) ?_ ?_
      · refine allSteps_cons ?_ (allSteps_cons ?_ (allSteps_cons ?_ (allSteps_cons ?_ (allSteps_cons ?_ (allSteps_cons ?_ (allSteps_cons ?_ (allSteps_cons ?_ (allSteps_cons ?_ (allSteps_cons ?_ (allSteps_cons ?_ (allSteps_cons ?_ (allSteps_cons ?_ (allSteps_cons ?_ (allSteps_cons ?_ (allSteps_cons ?_ (allSteps_cons ?_ (allSteps_cons ?_ (allSteps_cons ?_ (allSteps_cons ?_ (allSteps_cons ?_ (allSteps_cons ?_ (allSteps_cons ?_ (allSteps_cons ?_ (allSteps_cons ?_ (allSteps_cons ?_ (allSteps_cons ?_ (allSteps_cons ?_ (allSteps_cons ?_ (allSteps_cons ?_ (allSteps_cons ?_ (allSteps_cons ?_ (allSteps_cons ?_ (allSteps_cons ?_ (allSteps_cons ?_ (allSteps_cons ?_ (allSteps_cons ?_ (allSteps_cons ?_ (allSteps_cons ?_ (allSteps_cons ?_ (allSteps_cons ?_ (allSteps_cons ?_ (allSteps_cons ?_ (allSteps_cons ?_ (allSteps_cons ?_ (allSteps_cons ?_ (allSteps_cons ?_ (allSteps_cons ?_ (allSteps_cons ?_ (allSteps_cons ?_ (allSteps_cons ?_ (allSteps_cons ?_ (allSteps_cons ?_ (allSteps_cons ?_ (allSteps_cons ?_ (allSteps_cons ?_ (allSteps_cons ?_ (allSteps_cons ?_ (allSteps_nil))))))))))))))))))))))))))))))))))))))))))))))))))))))))))
        · intro a wx hC hE hD
          have e : a.eval (.tmp 4) = .pointer (some ⟨g, 0, none⟩) := hE 4 (by kernel_rfl)
          have x0 : wx.cell? ⟨g, 0, none⟩ = some (.int .i64 o) := (HBm.out.below hC HBm.out.lt).cell 0
          have x1 : wx.cell? ⟨g, 1, none⟩ = some (.int .i64 p) := (HBm.out.below hC HBm.out.lt).cell 1
          have x2 : wx.cell? ⟨g, 2, none⟩ = some (.slice Va nl vc) := (HBm.out.below hC HBm.out.lt).cell 2
          refine rel_value (v := .agg #[.int .i64 o, .int .i64 p, .slice Va nl vc]) rfl rfl ?_ hC rfl (fun _ _ h => h)
          generalize a.eval = ρ at e ⊢
          simp [execOp, go_sem, e, x0, x1, x2]
        · intro a wx hC hE hD
          obtain ⟨v0, e, hR0⟩ := rel_dep (d := 76) rfl (hD 0 _ rfl (by kernel_rfl))
          have hR0' : v0 = .agg #[.int .i64 o, .int .i64 p, .slice Va nl vc] := hR0
          subst hR0'
          clear hR0
          refine rel_call rfl rfl (exec_call1 rfl e (hfn 22 (by simp))) ((msg_any o p _ l wx (HAl.out.below hC) (by omega)).mono ?_)
          rintro e2 w2 ⟨v', rfl, ha, hb2⟩
          exact ⟨_, rfl, hC.trans (hb2.mono hC.size), ⟨v', rfl, ha⟩, all_keep hb2⟩
        · intro a wx hC hE hD
          have e : a.eval (.tmp 1) = .string sig := hE 1 (by kernel_rfl)
          refine rel_value (v := .string sig) rfl rfl ?_ hC rfl (fun _ _ h => h)
          generalize a.eval = ρ at e ⊢
          simp [execOp, go_sem, e]
        · intro a wx hC hE hD
          obtain ⟨v1, e1, hR1⟩ := rel_dep (d := 77) rfl (hD 1 _ rfl (by kernel_rfl))
          obtain ⟨v', hv1, ha⟩ : ∃ v', v1 = .agg #[.int .i64 o, .int .i64 p, v'] ∧ ArgsIs wx v' l := hR1
          subst hv1
          obtain ⟨v2, e2, hR2⟩ := rel_dep (d := 78) rfl (hD 2 _ rfl (by kernel_rfl))
          have hR2' : v2 = .string sig := hR2
          subst hR2'
          clear hR2
          refine rel_call rfl rfl (exec_call2 rfl e1 e2 (hfn 14 (by simp))) ((check_any A allErrs H1 o p v' l sig wx (HEx.out.to hC hC.size) ha HFIT.out (by omega)).mono ?_)
          rintro e2 w2 ⟨rfl, hb2⟩
          rw [← HCE.out]
          exact ⟨_, rfl, hC.trans (hb2.mono hC.size), rfl, all_keep hb2⟩
        · intro a wx hC hE hD
          obtain ⟨v3, e, hR3⟩ := rel_dep (d := 79) rfl (hD 3 _ rfl (by kernel_rfl))
          have hR3' : v3 = errV A ce := hR3
          subst hR3'
          clear hR3
          refine rel_call rfl rfl (exec_call1 rfl e (hfn 18 (by simp))) ((kind_any A ce (by omega) wx (HEx.out.to hC hC.size)).mono ?_)
          rintro e2 w2 ⟨rfl, hb2⟩
          exact ⟨_, rfl, hC.trans (hb2.mono hC.size), rfl, all_keep hb2⟩
        · intro a wx hC hE hD
          have e : a.eval (.tmp 4) = .pointer (some ⟨g, 0, none⟩) := hE 4 (by kernel_rfl)
          have x0 : wx.cell? ⟨g, 0, none⟩ = some (.int .i64 o) := (HBm.out.below hC HBm.out.lt).cell 0
          have x1 : wx.cell? ⟨g, 1, none⟩ = some (.int .i64 p) := (HBm.out.below hC HBm.out.lt).cell 1
          have x2 : wx.cell? ⟨g, 2, none⟩ = some (.slice Va nl vc) := (HBm.out.below hC HBm.out.lt).cell 2
          refine rel_value (v := .agg #[.int .i64 o, .int .i64 p, .slice Va nl vc]) rfl rfl ?_ hC rfl (fun _ _ h => h)
          generalize a.eval = ρ at e ⊢
          simp [execOp, go_sem, e, x0, x1, x2]
        · intro a wx hC hE hD
          have e : a.eval (.tmp 1) = .string sig := hE 1 (by kernel_rfl)
          refine rel_value (v := .string sig) rfl rfl ?_ hC rfl (fun _ _ h => h)
          generalize a.eval = ρ at e ⊢
          simp [execOp, go_sem, e]
        · intro a wx hC hE hD
          obtain ⟨v5, e1, hR5⟩ := rel_dep (d := 81) rfl (hD 5 _ rfl (by kernel_rfl))
          have hR5' : v5 = .agg #[.int .i64 o, .int .i64 p, .slice Va nl vc] := hR5
          subst hR5'
          clear hR5
          obtain ⟨v6, e2, hR6⟩ := rel_dep (d := 82) rfl (hD 6 _ rfl (by kernel_rfl))
          have hR6' : v6 = .string sig := hR6
          subst hR6'
          clear hR6
          refine rel_call rfl rfl (exec_call2 rfl e1 e2 (hfn 28 (by simp))) ((rcheck_any o p _ l sig wx (HAl.out.below hC) HFIT.out (by omega)).mono ?_)
          rintro e2 w2 ⟨rfl, hb2⟩
          rw [← HCE.out]
          exact ⟨_, rfl, hC.trans (hb2.mono hC.size), rfl, all_keep hb2⟩
        · intro a wx hC hE hD
          obtain ⟨v4, e1, hR4⟩ := rel_dep (d := 80) rfl (hD 4 _ rfl (by kernel_rfl))
          have hR4' : v4 = .int .i64 (ce : Nat) := hR4
          subst hR4'
          clear hR4
          obtain ⟨v7, e2, hR7⟩ := rel_dep (d := 83) rfl (hD 7 _ rfl (by kernel_rfl))
          have hR7' : v7 = .int .i64 (ce : Nat) := hR7
          subst hR7'
          clear hR7
          refine rel_value (v := .bool true) rfl rfl ?_ hC rfl (fun _ _ h => h)
          generalize a.eval = ρ at e1 e2 ⊢
          simp [execOp, go_sem, e1, e2]
        · intro a wx hC hE hD
          obtain ⟨v8, e, hR8⟩ := rel_dep (d := 84) rfl (hD 8 _ rfl (by kernel_rfl))
          have hR8' : v8 = .bool true := hR8
          subst hR8'
          clear hR8
          refine rel_value (v := .bool true) rfl rfl ?_ hC rfl (fun _ _ h => h)
          generalize a.eval = ρ at e ⊢
          simp [execOp, go_sem, e]
        · intro a wx hC hE hD
          obtain ⟨v9, eg, hR9⟩ := rel_dep (d := 85) rfl (hD 9 _ rfl (by kernel_rfl))
          have hR9' : v9 = .bool true := hR9
          subst hR9'
          clear hR9
          have e : a.eval (.tmp 9) = .slice A9 N9 c9 := hE 9 (by kernel_rfl)
          refine rel_value_w (v := .slice A9 N9 c9) rfl (wanted_of (b := true) rfl rfl rfl eg) ?_ hC rfl (fun _ _ h => h)
          clear eg
          generalize a.eval = ρ at e ⊢
          simp [execOp, go_sem, e]
        · intro a wx hC hE hD
          obtain ⟨v9, eg, hR9⟩ := rel_dep (d := 85) rfl (hD 9 _ rfl (by kernel_rfl))
          have hR9' : v9 = .bool true := hR9
          subst hR9'
          clear hR9
          obtain ⟨v10, e, hR10⟩ := rel_dep (d := 86) rfl (hD 10 _ rfl (by kernel_rfl))
          have hR10' : v10 = .slice A9 N9 c9 := hR10
          subst hR10'
          clear hR10
          have hcv := conv_str Tryd.underlying30 Tryd.underlying5 Tryd.underlying9 (SlN.more (SlN.below HS9.out hC) hC.size)
          rw [← HXS.out] at hcv
          refine rel_value_w (v := .string XS) rfl (wanted_of (b := true) rfl rfl rfl eg) ?_ hC rfl (fun _ _ h => h)
          clear eg
          generalize a.eval = ρ at e ⊢
          simp [execOp, go_sem, e, hcv]
        · intro a wx hC hE hD
          obtain ⟨v9, eg, hR9⟩ := rel_dep (d := 85) rfl (hD 9 _ rfl (by kernel_rfl))
          have hR9' : v9 = .bool true := hR9
          subst hR9'
          clear hR9
          have e : a.eval (.tmp 11) = .slice A11 N9 c11 := hE 11 (by kernel_rfl)
          refine rel_value_w (v := .slice A11 N9 c11) rfl (wanted_of (b := true) rfl rfl rfl eg) ?_ hC rfl (fun _ _ h => h)
          clear eg
          generalize a.eval = ρ at e ⊢
          simp [execOp, go_sem, e]
        · intro a wx hC hE hD
          obtain ⟨v9, eg, hR9⟩ := rel_dep (d := 85) rfl (hD 9 _ rfl (by kernel_rfl))
          have hR9' : v9 = .bool true := hR9
          subst hR9'
          clear hR9
          obtain ⟨v12, e, hR12⟩ := rel_dep (d := 88) rfl (hD 12 _ rfl (by kernel_rfl))
          have hR12' : v12 = .slice A11 N9 c11 := hR12
          subst hR12'
          clear hR12
          have hcv := conv_str Tryd.underlying30 Tryd.underlying5 Tryd.underlying9 (SlN.more (SlN.below HS11.out hC) hC.size)
          rw [← HXS.out] at hcv
          refine rel_value_w (v := .string XS) rfl (wanted_of (b := true) rfl rfl rfl eg) ?_ hC rfl (fun _ _ h => h)
          clear eg
          generalize a.eval = ρ at e ⊢
          simp [execOp, go_sem, e, hcv]
        · intro a wx hC hE hD
          obtain ⟨v9, eg, hR9⟩ := rel_dep (d := 85) rfl (hD 9 _ rfl (by kernel_rfl))
          have hR9' : v9 = .bool true := hR9
          subst hR9'
          clear hR9
          obtain ⟨v11, e1, hR11⟩ := rel_dep (d := 87) rfl (hD 11 _ rfl (by kernel_rfl))
          have hR11' : v11 = .string XS := hR11
          subst hR11'
          clear hR11
          obtain ⟨v13, e2, hR13⟩ := rel_dep (d := 89) rfl (hD 13 _ rfl (by kernel_rfl))
          have hR13' : v13 = .string XS := hR13
          subst hR13'
          clear hR13
          refine rel_value_w (v := .bool true) rfl (wanted_of (b := true) rfl rfl rfl eg) ?_ hC rfl (fun _ _ h => h)
          clear eg
          generalize a.eval = ρ at e1 e2 ⊢
          simp [execOp, go_sem, e1, e2]
        · intro a wx hC hE hD
          obtain ⟨v9, e1, hR9⟩ := rel_dep (d := 85) rfl (hD 9 _ rfl (by kernel_rfl))
          have hR9' : v9 = .bool true := hR9
          subst hR9'
          clear hR9
          obtain ⟨v14, e2, hR14⟩ := rel_dep (d := 90) rfl (hD 14 _ rfl (by kernel_rfl))
          have hR14' : v14 = .bool true := hR14
          subst hR14'
          clear hR14
          have e3 : a.eval (.const (.bool false)) = .bool false := rfl
          refine rel_value (v := .bool true) rfl rfl ?_ hC rfl (fun _ _ h => h)
          generalize a.eval = ρ at e1 e2 e3 ⊢
          simp [execOp, go_sem, e1, e2, e3]
        · intro a wx hC hE hD
          obtain ⟨v15, e, hR15⟩ := rel_dep (d := 91) rfl (hD 15 _ rfl (by kernel_rfl))
          have hR15' : v15 = .bool true := hR15
          subst hR15'
          clear hR15
          refine rel_value (v := .bool true) rfl rfl ?_ hC rfl (fun _ _ h => h)
          generalize a.eval = ρ at e ⊢
          simp [execOp, go_sem, e]
        · intro a wx hC hE hD
          obtain ⟨v16, eg, hR16⟩ := rel_dep (d := 92) rfl (hD 16 _ rfl (by kernel_rfl))
          have hR16' : v16 = .bool true := hR16
          subst hR16'
          clear hR16
          have e : a.eval (.tmp 10) = errV A q1 := hE 10 (by kernel_rfl)
          refine rel_value_w (v := errV A q1) rfl (wanted_of (b := true) rfl rfl rfl eg) ?_ hC rfl (fun _ _ h => h)
          clear eg
          generalize a.eval = ρ at e ⊢
          simp [execOp, go_sem, e]
        · intro a wx hC hE hD
          obtain ⟨v16, eg, hR16⟩ := rel_dep (d := 92) rfl (hD 16 _ rfl (by kernel_rfl))
          have hR16' : v16 = .bool true := hR16
          subst hR16'
          clear hR16
          obtain ⟨v17, e, hR17⟩ := rel_dep (d := 93) rfl (hD 17 _ rfl (by kernel_rfl))
          have hR17' : v17 = errV A q1 := hR17
          subst hR17'
          clear hR17
          refine rel_call_w rfl (wanted_of (b := true) rfl rfl rfl eg) (exec_call1 rfl e (hfn 18 (by simp))) ((kind_any A q1 (by omega) wx (HEx.out.to hC hC.size)).mono ?_)
          rintro e2 w2 ⟨rfl, hb2⟩
          exact ⟨_, rfl, hC.trans (hb2.mono hC.size), rfl, all_keep hb2⟩
        · intro a wx hC hE hD
          obtain ⟨v16, eg, hR16⟩ := rel_dep (d := 92) rfl (hD 16 _ rfl (by kernel_rfl))
          have hR16' : v16 = .bool true := hR16
          subst hR16'
          clear hR16
          have e : a.eval (.tmp 12) = .int .i64 (q1 : Nat) := hE 12 (by kernel_rfl)
          refine rel_value_w (v := .int .i64 (q1 : Nat)) rfl (wanted_of (b := true) rfl rfl rfl eg) ?_ hC rfl (fun _ _ h => h)
          clear eg
          generalize a.eval = ρ at e ⊢
          simp [execOp, go_sem, e]
        · intro a wx hC hE hD
          obtain ⟨v16, eg, hR16⟩ := rel_dep (d := 92) rfl (hD 16 _ rfl (by kernel_rfl))
          have hR16' : v16 = .bool true := hR16
          subst hR16'
          clear hR16
          obtain ⟨v18, e1, hR18⟩ := rel_dep (d := 94) rfl (hD 18 _ rfl (by kernel_rfl))
          have hR18' : v18 = .int .i64 (q1 : Nat) := hR18
          subst hR18'
          clear hR18
          obtain ⟨v19, e2, hR19⟩ := rel_dep (d := 95) rfl (hD 19 _ rfl (by kernel_rfl))
          have hR19' : v19 = .int .i64 (q1 : Nat) := hR19
          subst hR19'
          clear hR19
          refine rel_value_w (v := .bool true) rfl (wanted_of (b := true) rfl rfl rfl eg) ?_ hC rfl (fun _ _ h => h)
          clear eg
          generalize a.eval = ρ at e1 e2 ⊢
          simp [execOp, go_sem, e1, e2]
        · intro a wx hC hE hD
          obtain ⟨v16, e1, hR16⟩ := rel_dep (d := 92) rfl (hD 16 _ rfl (by kernel_rfl))
          have hR16' : v16 = .bool true := hR16
          subst hR16'
          clear hR16
          obtain ⟨v20, e2, hR20⟩ := rel_dep (d := 96) rfl (hD 20 _ rfl (by kernel_rfl))
          have hR20' : v20 = .bool true := hR20
          subst hR20'
          clear hR20
          have e3 : a.eval (.const (.bool false)) = .bool false := rfl
          refine rel_value (v := .bool true) rfl rfl ?_ hC rfl (fun _ _ h => h)
          generalize a.eval = ρ at e1 e2 e3 ⊢
          simp [execOp, go_sem, e1, e2, e3]
        · intro a wx hC hE hD
          obtain ⟨v21, e, hR21⟩ := rel_dep (d := 97) rfl (hD 21 _ rfl (by kernel_rfl))
          have hR21' : v21 = .bool true := hR21
          subst hR21'
          clear hR21
          refine rel_value (v := .bool true) rfl rfl ?_ hC rfl (fun _ _ h => h)
          generalize a.eval = ρ at e ⊢
          simp [execOp, go_sem, e]
        · intro a wx hC hE hD
          obtain ⟨v22, eg, hR22⟩ := rel_dep (d := 98) rfl (hD 22 _ rfl (by kernel_rfl))
          have hR22' : v22 = .bool true := hR22
          subst hR22'
          clear hR22
          have e : a.eval (.tmp 13) = .pointer (some ⟨g13, 0, none⟩) := hE 13 (by kernel_rfl)
          have x0 : wx.cell? ⟨g13, 0, none⟩ = some (.int .i64 ra) := (HBx.out.below hC HBx.out.lt).cell 0
          have x1 : wx.cell? ⟨g13, 1, none⟩ = some (.int .i64 rb) := (HBx.out.below hC HBx.out.lt).cell 1
          have x2 : wx.cell? ⟨g13, 2, none⟩ = some (.slice A13 n13 c13) := (HBx.out.below hC HBx.out.lt).cell 2
          refine rel_value_w (v := .agg #[.int .i64 ra, .int .i64 rb, .slice A13 n13 c13]) rfl (wanted_of (b := true) rfl rfl rfl eg) ?_ hC rfl (fun _ _ h => h)
          clear eg
          generalize a.eval = ρ at e ⊢
          simp [execOp, go_sem, e, x0, x1, x2]
        · intro a wx hC hE hD
          obtain ⟨v22, eg, hR22⟩ := rel_dep (d := 98) rfl (hD 22 _ rfl (by kernel_rfl))
          have hR22' : v22 = .bool true := hR22
          subst hR22'
          clear hR22
          have e : a.eval (.tmp 15) = .pointer (some ⟨g15, 0, none⟩) := hE 15 (by kernel_rfl)
          have x0 : wx.cell? ⟨g15, 0, none⟩ = some (.int .i64 ra) := (HBy.out.below hC HBy.out.lt).cell 0
          have x1 : wx.cell? ⟨g15, 1, none⟩ = some (.int .i64 rb) := (HBy.out.below hC HBy.out.lt).cell 1
          have x2 : wx.cell? ⟨g15, 2, none⟩ = some (.slice A15 n13 c15) := (HBy.out.below hC HBy.out.lt).cell 2
          refine rel_value_w (v := .agg #[.int .i64 ra, .int .i64 rb, .slice A15 n13 c15]) rfl (wanted_of (b := true) rfl rfl rfl eg) ?_ hC rfl (fun _ _ h => h)
          clear eg
          generalize a.eval = ρ at e ⊢
          simp [execOp, go_sem, e, x0, x1, x2]
        · intro a wx hC hE hD
          obtain ⟨v22, eg, hR22⟩ := rel_dep (d := 98) rfl (hD 22 _ rfl (by kernel_rfl))
          have hR22' : v22 = .bool true := hR22
          subst hR22'
          clear hR22
          obtain ⟨v23, e1, hR23⟩ := rel_dep (d := 99) rfl (hD 23 _ rfl (by kernel_rfl))
          have hR23' : v23 = .agg #[.int .i64 ra, .int .i64 rb, .slice A13 n13 c13] := hR23
          subst hR23'
          clear hR23
          obtain ⟨v24, e2, hR24⟩ := rel_dep (d := 100) rfl (hD 24 _ rfl (by kernel_rfl))
          have hR24' : v24 = .agg #[.int .i64 ra, .int .i64 rb, .slice A15 n13 c15] := hR24
          subst hR24'
          clear hR24
          refine rel_call_w rfl (wanted_of (b := true) rfl rfl rfl eg) (exec_call2 rfl e1 e2 (hfn 29 (by simp))) ((same_msg ra rb _ _ L13 wx (HA13.out.below hC) (HA15.out.below hC)).mono ?_)
          rintro e2 w2 ⟨rfl, hb2⟩
          exact ⟨_, rfl, hC.trans (hb2.mono hC.size), rfl, all_keep hb2⟩
        · intro a wx hC hE hD
          obtain ⟨v22, e1, hR22⟩ := rel_dep (d := 98) rfl (hD 22 _ rfl (by kernel_rfl))
          have hR22' : v22 = .bool true := hR22
          subst hR22'
          clear hR22
          obtain ⟨v25, e2, hR25⟩ := rel_dep (d := 101) rfl (hD 25 _ rfl (by kernel_rfl))
          have hR25' : v25 = .bool true := hR25
          subst hR25'
          clear hR25
          have e3 : a.eval (.const (.bool false)) = .bool false := rfl
          refine rel_value (v := .bool true) rfl rfl ?_ hC rfl (fun _ _ h => h)
          generalize a.eval = ρ at e1 e2 e3 ⊢
          simp [execOp, go_sem, e1, e2, e3]
        · intro a wx hC hE hD
          obtain ⟨v26, e, hR26⟩ := rel_dep (d := 102) rfl (hD 26 _ rfl (by kernel_rfl))
          have hR26' : v26 = .bool true := hR26
          subst hR26'
          clear hR26
          refine rel_value (v := .bool true) rfl rfl ?_ hC rfl (fun _ _ h => h)
          generalize a.eval = ρ at e ⊢
          simp [execOp, go_sem, e]
        · intro a wx hC hE hD
          obtain ⟨v27, eg, hR27⟩ := rel_dep (d := 103) rfl (hD 27 _ rfl (by kernel_rfl))
          have hR27' : v27 = .bool true := hR27
          subst hR27'
          clear hR27
          have e : a.eval (.tmp 14) = errV A q2 := hE 14 (by kernel_rfl)
          refine rel_value_w (v := errV A q2) rfl (wanted_of (b := true) rfl rfl rfl eg) ?_ hC rfl (fun _ _ h => h)
          clear eg
          generalize a.eval = ρ at e ⊢
          simp [execOp, go_sem, e]
        · intro a wx hC hE hD
          obtain ⟨v27, eg, hR27⟩ := rel_dep (d := 103) rfl (hD 27 _ rfl (by kernel_rfl))
          have hR27' : v27 = .bool true := hR27
          subst hR27'
          clear hR27
          obtain ⟨v28, e, hR28⟩ := rel_dep (d := 104) rfl (hD 28 _ rfl (by kernel_rfl))
          have hR28' : v28 = errV A q2 := hR28
          subst hR28'
          clear hR28
          refine rel_call_w rfl (wanted_of (b := true) rfl rfl rfl eg) (exec_call1 rfl e (hfn 18 (by simp))) ((kind_any A q2 (by omega) wx (HEx.out.to hC hC.size)).mono ?_)
          rintro e2 w2 ⟨rfl, hb2⟩
          exact ⟨_, rfl, hC.trans (hb2.mono hC.size), rfl, all_keep hb2⟩
        · intro a wx hC hE hD
          obtain ⟨v27, eg, hR27⟩ := rel_dep (d := 103) rfl (hD 27 _ rfl (by kernel_rfl))
          have hR27' : v27 = .bool true := hR27
          subst hR27'
          clear hR27
          have e : a.eval (.tmp 16) = .int .i64 (q2 : Nat) := hE 16 (by kernel_rfl)
          refine rel_value_w (v := .int .i64 (q2 : Nat)) rfl (wanted_of (b := true) rfl rfl rfl eg) ?_ hC rfl (fun _ _ h => h)
          clear eg
          generalize a.eval = ρ at e ⊢
          simp [execOp, go_sem, e]
        · intro a wx hC hE hD
          obtain ⟨v27, eg, hR27⟩ := rel_dep (d := 103) rfl (hD 27 _ rfl (by kernel_rfl))
          have hR27' : v27 = .bool true := hR27
          subst hR27'
          clear hR27
          obtain ⟨v29, e1, hR29⟩ := rel_dep (d := 105) rfl (hD 29 _ rfl (by kernel_rfl))
          have hR29' : v29 = .int .i64 (q2 : Nat) := hR29
          subst hR29'
          clear hR29
          obtain ⟨v30, e2, hR30⟩ := rel_dep (d := 106) rfl (hD 30 _ rfl (by kernel_rfl))
          have hR30' : v30 = .int .i64 (q2 : Nat) := hR30
          subst hR30'
          clear hR30
          refine rel_value_w (v := .bool true) rfl (wanted_of (b := true) rfl rfl rfl eg) ?_ hC rfl (fun _ _ h => h)
          clear eg
          generalize a.eval = ρ at e1 e2 ⊢
          simp [execOp, go_sem, e1, e2]
        · intro a wx hC hE hD
          obtain ⟨v27, e1, hR27⟩ := rel_dep (d := 103) rfl (hD 27 _ rfl (by kernel_rfl))
          have hR27' : v27 = .bool true := hR27
          subst hR27'
          clear hR27
          obtain ⟨v31, e2, hR31⟩ := rel_dep (d := 107) rfl (hD 31 _ rfl (by kernel_rfl))
          have hR31' : v31 = .bool true := hR31
          subst hR31'
          clear hR31
          have e3 : a.eval (.const (.bool false)) = .bool false := rfl
          refine rel_value (v := .bool true) rfl rfl ?_ hC rfl (fun _ _ h => h)
          generalize a.eval = ρ at e1 e2 e3 ⊢
          simp [execOp, go_sem, e1, e2, e3]
        · intro a wx hC hE hD
          obtain ⟨v32, e, hR32⟩ := rel_dep (d := 108) rfl (hD 32 _ rfl (by kernel_rfl))
          have hR32' : v32 = .bool true := hR32
          subst hR32'
          clear hR32
          refine rel_value (v := .bool true) rfl rfl ?_ hC rfl (fun _ _ h => h)
          generalize a.eval = ρ at e ⊢
          simp [execOp, go_sem, e]
        · intro a wx hC hE hD
          obtain ⟨v33, eg, hR33⟩ := rel_dep (d := 109) rfl (hD 33 _ rfl (by kernel_rfl))
          have hR33' : v33 = .bool true := hR33
          subst hR33'
          clear hR33
          have e : a.eval (.tmp 17) = .int .i64 hO := hE 17 (by kernel_rfl)
          refine rel_value_w (v := .int .i64 hO) rfl (wanted_of (b := true) rfl rfl rfl eg) ?_ hC rfl (fun _ _ h => h)
          clear eg
          generalize a.eval = ρ at e ⊢
          simp [execOp, go_sem, e]
        · intro a wx hC hE hD
          obtain ⟨v33, eg, hR33⟩ := rel_dep (d := 109) rfl (hD 33 _ rfl (by kernel_rfl))
          have hR33' : v33 = .bool true := hR33
          subst hR33'
          clear hR33
          have e : a.eval (.tmp 21) = .int .i64 hO := hE 21 (by kernel_rfl)
          refine rel_value_w (v := .int .i64 hO) rfl (wanted_of (b := true) rfl rfl rfl eg) ?_ hC rfl (fun _ _ h => h)
          clear eg
          generalize a.eval = ρ at e ⊢
          simp [execOp, go_sem, e]
        · intro a wx hC hE hD
          obtain ⟨v33, eg, hR33⟩ := rel_dep (d := 109) rfl (hD 33 _ rfl (by kernel_rfl))
          have hR33' : v33 = .bool true := hR33
          subst hR33'
          clear hR33
          obtain ⟨v34, e1, hR34⟩ := rel_dep (d := 110) rfl (hD 34 _ rfl (by kernel_rfl))
          have hR34' : v34 = .int .i64 hO := hR34
          subst hR34'
          clear hR34
          obtain ⟨v35, e2, hR35⟩ := rel_dep (d := 111) rfl (hD 35 _ rfl (by kernel_rfl))
          have hR35' : v35 = .int .i64 hO := hR35
          subst hR35'
          clear hR35
          refine rel_value_w (v := .bool true) rfl (wanted_of (b := true) rfl rfl rfl eg) ?_ hC rfl (fun _ _ h => h)
          clear eg
          generalize a.eval = ρ at e1 e2 ⊢
          simp [execOp, go_sem, e1, e2]
        · intro a wx hC hE hD
          obtain ⟨v33, e1, hR33⟩ := rel_dep (d := 109) rfl (hD 33 _ rfl (by kernel_rfl))
          have hR33' : v33 = .bool true := hR33
          subst hR33'
          clear hR33
          obtain ⟨v36, e2, hR36⟩ := rel_dep (d := 112) rfl (hD 36 _ rfl (by kernel_rfl))
          have hR36' : v36 = .bool true := hR36
          subst hR36'
          clear hR36
          have e3 : a.eval (.const (.bool false)) = .bool false := rfl
          refine rel_value (v := .bool true) rfl rfl ?_ hC rfl (fun _ _ h => h)
          generalize a.eval = ρ at e1 e2 e3 ⊢
          simp [execOp, go_sem, e1, e2, e3]
        · intro a wx hC hE hD
          obtain ⟨v37, e, hR37⟩ := rel_dep (d := 113) rfl (hD 37 _ rfl (by kernel_rfl))
          have hR37' : v37 = .bool true := hR37
          subst hR37'
          clear hR37
          refine rel_value (v := .bool true) rfl rfl ?_ hC rfl (fun _ _ h => h)
          generalize a.eval = ρ at e ⊢
          simp [execOp, go_sem, e]
        · intro a wx hC hE hD
          obtain ⟨v38, eg, hR38⟩ := rel_dep (d := 114) rfl (hD 38 _ rfl (by kernel_rfl))
          have hR38' : v38 = .bool true := hR38
          subst hR38'
          clear hR38
          have e : a.eval (.tmp 18) = .int .i64 hP := hE 18 (by kernel_rfl)
          refine rel_value_w (v := .int .i64 hP) rfl (wanted_of (b := true) rfl rfl rfl eg) ?_ hC rfl (fun _ _ h => h)
          clear eg
          generalize a.eval = ρ at e ⊢
          simp [execOp, go_sem, e]
        · intro a wx hC hE hD
          obtain ⟨v38, eg, hR38⟩ := rel_dep (d := 114) rfl (hD 38 _ rfl (by kernel_rfl))
          have hR38' : v38 = .bool true := hR38
          subst hR38'
          clear hR38
          have e : a.eval (.tmp 22) = .int .i64 hP := hE 22 (by kernel_rfl)
          refine rel_value_w (v := .int .i64 hP) rfl (wanted_of (b := true) rfl rfl rfl eg) ?_ hC rfl (fun _ _ h => h)
          clear eg
          generalize a.eval = ρ at e ⊢
          simp [execOp, go_sem, e]
        · intro a wx hC hE hD
          obtain ⟨v38, eg, hR38⟩ := rel_dep (d := 114) rfl (hD 38 _ rfl (by kernel_rfl))
          have hR38' : v38 = .bool true := hR38
          subst hR38'
          clear hR38
          obtain ⟨v39, e1, hR39⟩ := rel_dep (d := 115) rfl (hD 39 _ rfl (by kernel_rfl))
          have hR39' : v39 = .int .i64 hP := hR39
          subst hR39'
          clear hR39
          obtain ⟨v40, e2, hR40⟩ := rel_dep (d := 116) rfl (hD 40 _ rfl (by kernel_rfl))
          have hR40' : v40 = .int .i64 hP := hR40
          subst hR40'
          clear hR40
          refine rel_value_w (v := .bool true) rfl (wanted_of (b := true) rfl rfl rfl eg) ?_ hC rfl (fun _ _ h => h)
          clear eg
          generalize a.eval = ρ at e1 e2 ⊢
          simp [execOp, go_sem, e1, e2]
        · intro a wx hC hE hD
          obtain ⟨v38, e1, hR38⟩ := rel_dep (d := 114) rfl (hD 38 _ rfl (by kernel_rfl))
          have hR38' : v38 = .bool true := hR38
          subst hR38'
          clear hR38
          obtain ⟨v41, e2, hR41⟩ := rel_dep (d := 117) rfl (hD 41 _ rfl (by kernel_rfl))
          have hR41' : v41 = .bool true := hR41
          subst hR41'
          clear hR41
          have e3 : a.eval (.const (.bool false)) = .bool false := rfl
          refine rel_value (v := .bool true) rfl rfl ?_ hC rfl (fun _ _ h => h)
          generalize a.eval = ρ at e1 e2 e3 ⊢
          simp [execOp, go_sem, e1, e2, e3]
        · intro a wx hC hE hD
          obtain ⟨v42, e, hR42⟩ := rel_dep (d := 118) rfl (hD 42 _ rfl (by kernel_rfl))
          have hR42' : v42 = .bool true := hR42
          subst hR42'
          clear hR42
          refine rel_value (v := .bool true) rfl rfl ?_ hC rfl (fun _ _ h => h)
          generalize a.eval = ρ at e ⊢
          simp [execOp, go_sem, e]
        · intro a wx hC hE hD
          obtain ⟨v43, eg, hR43⟩ := rel_dep (d := 119) rfl (hD 43 _ rfl (by kernel_rfl))
          have hR43' : v43 = .bool true := hR43
          subst hR43'
          clear hR43
          have e : a.eval (.tmp 19) = .int .i64 hN := hE 19 (by kernel_rfl)
          refine rel_value_w (v := .int .i64 hN) rfl (wanted_of (b := true) rfl rfl rfl eg) ?_ hC rfl (fun _ _ h => h)
          clear eg
          generalize a.eval = ρ at e ⊢
          simp [execOp, go_sem, e]
        · intro a wx hC hE hD
          obtain ⟨v43, eg, hR43⟩ := rel_dep (d := 119) rfl (hD 43 _ rfl (by kernel_rfl))
          have hR43' : v43 = .bool true := hR43
          subst hR43'
          clear hR43
          have e : a.eval (.tmp 23) = .int .i64 hN := hE 23 (by kernel_rfl)
          refine rel_value_w (v := .int .i64 hN) rfl (wanted_of (b := true) rfl rfl rfl eg) ?_ hC rfl (fun _ _ h => h)
          clear eg
          generalize a.eval = ρ at e ⊢
          simp [execOp, go_sem, e]
        · intro a wx hC hE hD
          obtain ⟨v43, eg, hR43⟩ := rel_dep (d := 119) rfl (hD 43 _ rfl (by kernel_rfl))
          have hR43' : v43 = .bool true := hR43
          subst hR43'
          clear hR43
          obtain ⟨v44, e1, hR44⟩ := rel_dep (d := 120) rfl (hD 44 _ rfl (by kernel_rfl))
          have hR44' : v44 = .int .i64 hN := hR44
          subst hR44'
          clear hR44
          obtain ⟨v45, e2, hR45⟩ := rel_dep (d := 121) rfl (hD 45 _ rfl (by kernel_rfl))
          have hR45' : v45 = .int .i64 hN := hR45
          subst hR45'
          clear hR45
          refine rel_value_w (v := .bool true) rfl (wanted_of (b := true) rfl rfl rfl eg) ?_ hC rfl (fun _ _ h => h)
          clear eg
          generalize a.eval = ρ at e1 e2 ⊢
          simp [execOp, go_sem, e1, e2]
        · intro a wx hC hE hD
          obtain ⟨v43, e1, hR43⟩ := rel_dep (d := 119) rfl (hD 43 _ rfl (by kernel_rfl))
          have hR43' : v43 = .bool true := hR43
          subst hR43'
          clear hR43
          obtain ⟨v46, e2, hR46⟩ := rel_dep (d := 122) rfl (hD 46 _ rfl (by kernel_rfl))
          have hR46' : v46 = .bool true := hR46
          subst hR46'
          clear hR46
          have e3 : a.eval (.const (.bool false)) = .bool false := rfl
          refine rel_value (v := .bool true) rfl rfl ?_ hC rfl (fun _ _ h => h)
          generalize a.eval = ρ at e1 e2 e3 ⊢
          simp [execOp, go_sem, e1, e2, e3]
        · intro a wx hC hE hD
          obtain ⟨v47, e, hR47⟩ := rel_dep (d := 123) rfl (hD 47 _ rfl (by kernel_rfl))
          have hR47' : v47 = .bool true := hR47
          subst hR47'
          clear hR47
          refine rel_value (v := .bool true) rfl rfl ?_ hC rfl (fun _ _ h => h)
          generalize a.eval = ρ at e ⊢
          simp [execOp, go_sem, e]
        · intro a wx hC hE hD
          obtain ⟨v48, eg, hR48⟩ := rel_dep (d := 124) rfl (hD 48 _ rfl (by kernel_rfl))
          have hR48' : v48 = .bool true := hR48
          subst hR48'
          clear hR48
          have e : a.eval (.tmp 20) = errV A q3 := hE 20 (by kernel_rfl)
          refine rel_value_w (v := errV A q3) rfl (wanted_of (b := true) rfl rfl rfl eg) ?_ hC rfl (fun _ _ h => h)
          clear eg
          generalize a.eval = ρ at e ⊢
          simp [execOp, go_sem, e]
        · intro a wx hC hE hD
          obtain ⟨v48, eg, hR48⟩ := rel_dep (d := 124) rfl (hD 48 _ rfl (by kernel_rfl))
          have hR48' : v48 = .bool true := hR48
          subst hR48'
          clear hR48
          obtain ⟨v49, e, hR49⟩ := rel_dep (d := 125) rfl (hD 49 _ rfl (by kernel_rfl))
          have hR49' : v49 = errV A q3 := hR49
          subst hR49'
          clear hR49
          refine rel_call_w rfl (wanted_of (b := true) rfl rfl rfl eg) (exec_call1 rfl e (hfn 18 (by simp))) ((kind_any A q3 (by omega) wx (HEx.out.to hC hC.size)).mono ?_)
          rintro e2 w2 ⟨rfl, hb2⟩
          exact ⟨_, rfl, hC.trans (hb2.mono hC.size), rfl, all_keep hb2⟩
        · intro a wx hC hE hD
          obtain ⟨v48, eg, hR48⟩ := rel_dep (d := 124) rfl (hD 48 _ rfl (by kernel_rfl))
          have hR48' : v48 = .bool true := hR48
          subst hR48'
          clear hR48
          have e : a.eval (.tmp 24) = .int .i64 (q3 : Nat) := hE 24 (by kernel_rfl)
          refine rel_value_w (v := .int .i64 (q3 : Nat)) rfl (wanted_of (b := true) rfl rfl rfl eg) ?_ hC rfl (fun _ _ h => h)
          clear eg
          generalize a.eval = ρ at e ⊢
          simp [execOp, go_sem, e]
        · intro a wx hC hE hD
          obtain ⟨v48, eg, hR48⟩ := rel_dep (d := 124) rfl (hD 48 _ rfl (by kernel_rfl))
          have hR48' : v48 = .bool true := hR48
          subst hR48'
          clear hR48
          obtain ⟨v50, e1, hR50⟩ := rel_dep (d := 126) rfl (hD 50 _ rfl (by kernel_rfl))
          have hR50' : v50 = .int .i64 (q3 : Nat) := hR50
          subst hR50'
          clear hR50
          obtain ⟨v51, e2, hR51⟩ := rel_dep (d := 127) rfl (hD 51 _ rfl (by kernel_rfl))
          have hR51' : v51 = .int .i64 (q3 : Nat) := hR51
          subst hR51'
          clear hR51
          refine rel_value_w (v := .bool true) rfl (wanted_of (b := true) rfl rfl rfl eg) ?_ hC rfl (fun _ _ h => h)
          clear eg
          generalize a.eval = ρ at e1 e2 ⊢
          simp [execOp, go_sem, e1, e2]
        · intro a wx hC hE hD
          obtain ⟨v48, e1, hR48⟩ := rel_dep (d := 124) rfl (hD 48 _ rfl (by kernel_rfl))
          have hR48' : v48 = .bool true := hR48
          subst hR48'
          clear hR48
          obtain ⟨v52, e2, hR52⟩ := rel_dep (d := 128) rfl (hD 52 _ rfl (by kernel_rfl))
          have hR52' : v52 = .bool true := hR52
          subst hR52'
          clear hR52
          have e3 : a.eval (.const (.bool false)) = .bool false := rfl
          refine rel_value (v := .bool true) rfl rfl ?_ hC rfl (fun _ _ h => h)
          generalize a.eval = ρ at e1 e2 e3 ⊢
          simp [execOp, go_sem, e1, e2, e3]
        · intro a wx hC hE hD
          obtain ⟨v53, e, hR53⟩ := rel_dep (d := 129) rfl (hD 53 _ rfl (by kernel_rfl))
          have hR53' : v53 = .bool true := hR53
          subst hR53'
          clear hR53
          refine rel_value (v := .bool true) rfl rfl ?_ hC rfl (fun _ _ h => h)
          generalize a.eval = ρ at e ⊢
          simp [execOp, go_sem, e]
        · intro a wx hC hE hD
          obtain ⟨v54, eg, hR54⟩ := rel_dep (d := 130) rfl (hD 54 _ rfl (by kernel_rfl))
          have hR54' : v54 = .bool true := hR54
          subst hR54'
          clear hR54
          refine rel_call_w rfl (wanted_of (b := true) rfl rfl rfl eg) (exec_call0 rfl (hfn 15 (by simp))) ((w4awake_any A allErrs H1 H4 wx (HEx.out.to hC hC.size)).mono ?_)
          rintro e2 w2 ⟨rfl, hb2⟩
          exact ⟨_, rfl, hC.trans (hb2.mono hC.size), rfl, all_keep hb2⟩
        · intro a wx hC hE hD
          obtain ⟨v54, e1, hR54⟩ := rel_dep (d := 130) rfl (hD 54 _ rfl (by kernel_rfl))
          have hR54' : v54 = .bool true := hR54
          subst hR54'
          clear hR54
          obtain ⟨v55, e2, hR55⟩ := rel_dep (d := 131) rfl (hD 55 _ rfl (by kernel_rfl))
          have hR55' : v55 = .bool true := hR55
          subst hR55'
          clear hR55
          have e3 : a.eval (.const (.bool false)) = .bool false := rfl
          refine rel_value (v := .bool true) rfl rfl ?_ hC rfl (fun _ _ h => h)
          generalize a.eval = ρ at e1 e2 e3 ⊢
          simp [execOp, go_sem, e1, e2, e3]
        · intro a wx hC hE hD
          obtain ⟨v56, e, hR56⟩ := rel_dep (d := 132) rfl (hD 56 _ rfl (by kernel_rfl))
          have hR56' : v56 = .bool true := hR56
          subst hR56'
          clear hR56
          refine rel_value (v := .bool true) rfl rfl ?_ hC rfl (fun _ _ h => h)
          generalize a.eval = ρ at e ⊢
          simp [execOp, go_sem, e]
      · intro vs w' hC hV
        obtain ⟨_, _, _, _, _, _, _, _, _, _, _, _, _, _, _, _, _, _, _, _, _, _, _, _, _, _, _, _, _, _, _, _, _, _, _, _, _, _, _, _, _, _, _, _, _, _, _, _, _, _, _, _, _, _, _, _, _, h57, _⟩ := hV
        have h57' : vs 57 = .bool true := h57
        simp only [putAll, Act.put, List.setIfInBounds_toArray, List.set_cons_zero, List.set_cons_succ, Nat.zero_add, Nat.reduceAdd]
        rw [h57']
        have HCC := Lib.hid (HB12.out.trans (hC.mono HB12.out.size))
        clear hC h57 h57' hfn
        go_wp2_with fail
        go_ret
        exact ⟨rfl, HCC.out⟩
end Go.Proofs.YtihbgkighckiiaaDoor
