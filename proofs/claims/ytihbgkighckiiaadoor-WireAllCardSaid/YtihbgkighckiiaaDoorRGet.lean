/- tableauref04.Get. No condition but that it is not too long. -/
import Derived.Test.YtihbgkighckiiaaDoorGetC
import Derived.Test.YtihbgkighckiiaaDoorROne
import Derived.Test.YtihbgkighckiiaaDoorFeed
import Derived.Deep.RegionLaw
namespace Go.Proofs.YtihbgkighckiiaaDoor
open Go.RowKit
set_option maxRecDepth 100000

def RGetPost (o p : Int) (bs : List UInt8) (sig : ByteArray) (w : World) (e : Ending) (w' : World) : Prop :=
  ∃ v, e = .returned (.tuple #[.agg #[.int .i64 (if mgetE o p bs sig = 0 then o else 0), .int .i64 (if mgetE o p bs sig = 0 then p else 0), v], (.int .i64 (mgetE o p bs sig : Nat))]) ∧ w'.ownsRow w.heap.size 26 3 v (mgetL o p bs sig).length (argCells (mgetL o p bs sig)) ∧ Below w.heap.size w w'
theorem rget_err2 {o p : Int} {bs : List UInt8} {sig : ByteArray} {w w' : World} {k : Nat} (h : mgetE o p bs sig = k) (hk : 0 < k) (hb : Below w.heap.size w w') :
    RGetPost o p bs sig w (.returned (.tuple #[.agg #[.int .i64 0, .int .i64 0, .slice none 0 0], .int .i64 (k : Nat)])) w' := by
  refine ⟨.slice none 0 0, by rw [h, if_neg (by omega), if_neg (by omega)], ?_, hb⟩
  unfold mgetL; rw [if_neg (by omega)]; exact args_nil w' _
def RGetRel (w : World) (z g4 g6 : Nat) (o p : Int) (bvv : Value) (bs : List UInt8) (sig : ByteArray) (a i : Value) (wr : World) : Prop :=
  ∃ (k x : Nat) (l : List ArgD) (vl : Value), k ≤ sig.size ∧ i = .int .i64 k ∧ a = .int .i64 x ∧ x ≤ bs.length ∧ getArgs bs (sig.data.toList.take k) 0 = (0, l, x) ∧ l.length = k ∧ GetSt w z g4 g6 o p bvv bs l vl wr
theorem rgetArgs_next {bs : List UInt8} {s : List UInt8} {k x : Nat} {l : List ArgD} (hk : k < s.length) (h : getArgs bs (s.take k) 0 = (0, l, x)) :
    (argE s[k].toNat bs x = 0 → getArgs bs (s.take (k + 1)) 0 = (0, l ++ [((s[k].toNat : Int), argN s[k].toNat bs x, argS s[k].toNat bs x)], argX s[k].toNat bs x)) ∧ (argE s[k].toNat bs x ≠ 0 → (getArgs bs s 0).1 = argE s[k].toNat bs x) := by
  constructor
  · intro he
    rw [List.take_succ_eq_append_getElem hk, getArgs_app, h, if_neg (by simp)]
    simp only [getArgs, he, ne_eq, not_true_eq_false, if_false]
  · intro he
    have e1 : s.take k ++ (s[k] :: s.drop (k + 1)) = s := by rw [← List.drop_eq_getElem_cons hk, List.take_append_drop]
    have e2 := getArgs_app bs (s.take k) (s[k] :: s.drop (k + 1)) 0
    rw [e1, h, if_neg (by simp)] at e2
    rw [e2]
    simp only [getArgs]
    rw [if_pos he]
set_option linter.unusedVariables false in
set_option maxHeartbeats 1000000 in
theorem rmget_any (o p : Int) (body sig : ByteArray) (bs : List UInt8) (hbs : body.data.toList = bs) (w : World) (hbl : body.size ≤ 1000000) (hs : sig.size ≤ 60000) :
    Calls Tryd.prog 25 #[.agg #[.int .i64 o, .int .i64 p, .string body], .string sig] w (RGetPost o p bs sig w) := by
  have HBS := Lib.hid hbs
  clear hbs
  obtain ⟨g2, hg2⟩ : ∃ g2, g2 = w.heap.size := ⟨_, rfl⟩
  have HG2 := Lib.hid hg2
  go_enter Tryd.func25, Tryd.ntmps25
  go_upto_region 2 with (fail)
  have hb3 : Below w.heap.size w (((w.alloc (.cells #[.int .i64 o, .int .i64 p, .string body] 50)).alloc (.cells #[.int .i64 0, .int .i64 0, .slice none 0 0] 29)).alloc (.cells #[.int .i64 o, .int .i64 p, .slice none 0 0] 29)) := (((Below.refl _ _).alloc (Nat.le_refl _) _).alloc (by simp) _).alloc (by simp; omega) _
  have hk2 : Blk (((w.alloc (.cells #[.int .i64 o, .int .i64 p, .string body] 50)).alloc (.cells #[.int .i64 0, .int .i64 0, .slice none 0 0] 29)).alloc (.cells #[.int .i64 o, .int .i64 p, .slice none 0 0] 29)) w.heap.size 50 #[.int .i64 o, .int .i64 p, .string body] := ((Blk.new _ _ _).alloc _).alloc _
  have hk4 : Blk (((w.alloc (.cells #[.int .i64 o, .int .i64 p, .string body] 50)).alloc (.cells #[.int .i64 0, .int .i64 0, .slice none 0 0] 29)).alloc (.cells #[.int .i64 o, .int .i64 p, .slice none 0 0] 29)) (w.heap.size + 1) 29 #[.int .i64 0, .int .i64 0, .slice none 0 0] := by
    have := (Blk.new (w.alloc (.cells #[.int .i64 o, .int .i64 p, .string body] 50)) 29 #[.int .i64 0, .int .i64 0, .slice none 0 0]).alloc (.cells #[.int .i64 o, .int .i64 p, .slice none 0 0] 29)
    rwa [World.size_alloc] at this
  have hk6 : Blk (((w.alloc (.cells #[.int .i64 o, .int .i64 p, .string body] 50)).alloc (.cells #[.int .i64 0, .int .i64 0, .slice none 0 0] 29)).alloc (.cells #[.int .i64 o, .int .i64 p, .slice none 0 0] 29)) (w.heap.size + 1 + 1) 29 #[.int .i64 o, .int .i64 p, .slice none 0 0] := by
    have := Blk.new ((w.alloc (.cells #[.int .i64 o, .int .i64 p, .string body] 50)).alloc (.cells #[.int .i64 0, .int .i64 0, .slice none 0 0] 29)) 29 #[.int .i64 o, .int .i64 p, .slice none 0 0]
    rwa [World.size_alloc, World.size_alloc] at this
  obtain ⟨g6, hg6⟩ : ∃ g6, g6 = w.heap.size + 1 + 1 := ⟨_, rfl⟩
  rw [← hg6] at hk6 ⊢
  obtain ⟨g4, hg4⟩ : ∃ g4, g4 = w.heap.size + 1 := ⟨_, rfl⟩
  rw [← hg4] at hk4 ⊢
  rw [← hg2] at hk2 ⊢
  have hlt : Hid (g2 < g4 ∧ g4 < g6 ∧ w.heap.size ≤ g2) := ⟨by omega, by omega, by omega⟩
  have HK2 := Lib.hid hk2
  have HK4 := Lib.hid hk4
  have HK6 := Lib.hid hk6
  have HB3 := Lib.hid hb3
  clear hb3 hk2 hk4 hk6 hg6 hg4 hg2
  generalize (((w.alloc (.cells #[.int .i64 o, .int .i64 p, .string body] 50)).alloc (.cells #[.int .i64 0, .int .i64 0, .slice none 0 0] 29)).alloc (.cells #[.int .i64 o, .int .i64 p, .slice none 0 0] 29)) = w3 at HK2 HK4 HK6 HB3 ⊢
  have c22 : w3.cell? ⟨g2, 2, none⟩ = some (.string body) := HK2.out.cell 2
  obtain ⟨c, w4, hcv, hsl, hb4⟩ := conv_bytes w3 body (by omega)
  obtain ⟨gb, hgb⟩ : ∃ gb, gb = w3.heap.size := ⟨_, rfl⟩
  rw [← hgb] at hcv hsl
  have HFX : Hid (GetFix w w4.heap.size g4 g6 (.slice (some ⟨gb, 0, none⟩) body.size c)) := by
    have := hlt.out
    have l4 := HK4.out.lt
    have l6 := HK6.out.lt
    have := hb4.size
    exact ⟨by omega, by omega, by omega, by omega, by omega, fun b off n c' hv => by cases hv; omega⟩
  have HST : Hid (GetSt w w4.heap.size g4 g6 o p (.slice (some ⟨gb, 0, none⟩) body.size c) bs [] (.slice none 0 0) w4) :=
    ⟨HK4.out.below hb4 HK4.out.lt, HK6.out.below hb4 HK6.out.lt, World.ownsRow_nil _ _ _ _, by rw [← HBS.out]; exact hsl, HB3.out.trans (hb4.mono HB3.out.size), Nat.le_refl _⟩
  have hbl2 : bs.length = body.size := by rw [← HBS.out, Array.length_toList]; rfl
  have hsl2 : sig.data.toList.length = sig.size := by rw [Array.length_toList]; rfl
  have HBL := Lib.hid hbl2
  have HSL := Lib.hid hsl2
  obtain ⟨m, hm⟩ : ∃ m, m = body.size := ⟨_, rfl⟩
  have HM := Lib.hid hm
  rw [← hm] at HFX HST HBL hcv hbl
  obtain ⟨z, hz⟩ : ∃ z, z = w4.heap.size := ⟨_, rfl⟩
  rw [← hz] at HFX HST
  have HGE : Hid (mgetE o p bs sig = if (getArgs bs sig.data.toList 0).1 ≠ 0 then (getArgs bs sig.data.toList 0).1 else if (getArgs bs sig.data.toList 0).2.2 < m then 3 else checkE o p (getArgs bs sig.data.toList 0).2.1 sig) := by
    show _ = _; unfold mgetE; rw [HBL.out]
  clear hsl hb4 hgb hbl2 hsl2 hm hz
  go_wp2_with fail
  clear hcv c22 HK2 HK4 HK6 HB3
  go_loopw [8, 9] (RGetRel w z g4 g6 o p (.slice (some ⟨gb, 0, none⟩) m c) bs sig) (fun _ i _ => sig.size - (intOf i).toNat)
  case atStart => exact ⟨0, 0, [], _, Nat.zero_le _, rfl, rfl, Nat.zero_le _, by simp [getArgs], rfl, HST.out⟩
  case round =>
    obtain ⟨k, x, l, vl, hk, rfl, rfl, hx, hga, hlk, hst⟩ := hrel
    have HG := Lib.hid hst
    have HGA := Lib.hid hga
    have HLK := Lib.hid hlk
    have HX := Lib.hid hx
    have hxm : x ≤ m := by rw [← HBL.out]; exact hx
    have hl6 : l.length ≤ 60000 := by omega
    obtain ⟨VA, vc, hv⟩ : ∃ A c, vl = .slice A l.length c := by
      rcases hst.own.2 with ⟨h5, h6⟩ | ⟨b5, cap, cur, h5, _⟩
      · exact ⟨_, _, by rw [h5, h6]⟩
      · exact ⟨_, _, h5⟩
    subst hv
    clear hst hga hlk hx HST
    by_cases hlt2 : k < sig.size
    · have HNX := Lib.hid (rgetArgs_next (s := sig.data.toList) (by rw [HSL.out]; exact hlt2) HGA.out)
      have hby := byte_get sig k hlt2
      rw [hby] at HNX
      obtain ⟨y, hy⟩ : ∃ y : Nat, y = (sig[k]).toNat := ⟨_, rfl⟩
      rw [← hy] at HNX
      have HY := Lib.hid hy
      have HBY := Lib.hid hby
      clear hby hy
      go_wp2_with fail
      rw [← HY.out]
      refine (rone_any (y : Int) _ bs x wr (HG.out.b.more HG.out.z) HX.out (by rw [HBL.out]; omega)).mono ?_
      rintro e w5 ⟨n', s', x', rfl, hok, hb5⟩
      have HG5 := Lib.hid (HG.out.below hb5)
      have lt6 : g6 < w5.heap.size := HG5.out.m.lt
      have lt4 : g4 < w5.heap.size := HG5.out.r.lt
      clear hb5
      by_cases he : argE y bs x = 0
      · obtain ⟨e1, e2, e3⟩ := hok he
        have hga2 := HNX.out.1 he
        obtain ⟨nx, hnx⟩ : ∃ nx, nx = argX y bs x := ⟨_, rfl⟩
        have hnl := (argX_le y bs x he).2
        rw [← hnx] at e3 hga2 hnl
        rw [← e1, ← e2] at hga2
        subst e3
        have HGA2 := Lib.hid hga2
        have HNL := Lib.hid hnl
        rw [he]
        clear hok he hga2 hnx hnl e1 e2
        have c40 : w5.cell? ⟨g4, 0, none⟩ = some (.int .i64 0) := HG5.out.r.cell 0
        have f40 : w5.frozen? ⟨g4, 0, none⟩ = false := HG5.out.r.frozen 0
        have c41 : w5.cell? ⟨g4, 1, none⟩ = some (.int .i64 0) := HG5.out.r.cell 1
        have f41 : w5.frozen? ⟨g4, 1, none⟩ = false := HG5.out.r.frozen 1
        have c42 : w5.cell? ⟨g4, 2, none⟩ = some (.slice none 0 0) := HG5.out.r.cell 2
        have f42 : w5.frozen? ⟨g4, 2, none⟩ = false := HG5.out.r.frozen 2
        have c60 : w5.cell? ⟨g6, 0, none⟩ = some (.int .i64 o) := HG5.out.m.cell 0
        have f60 : w5.frozen? ⟨g6, 0, none⟩ = false := HG5.out.m.frozen 0
        have c61 : w5.cell? ⟨g6, 1, none⟩ = some (.int .i64 p) := HG5.out.m.cell 1
        have f61 : w5.frozen? ⟨g6, 1, none⟩ = false := HG5.out.m.frozen 1
        have c62 : w5.cell? ⟨g6, 2, none⟩ = some (.slice VA l.length vc) := HG5.out.m.cell 2
        have f62 : w5.frozen? ⟨g6, 2, none⟩ = false := HG5.out.m.frozen 2
        go_wp2_with (
          at_builtin
          refine wpList_app rfl _ _ _ _ rfl _ _ rfl rfl _ (arg_app3 (y : Int) n' s' _ HG5.out hl6) ?_
          intro v7 w7 hR
          have hk4 := HG5.out.r.below hR.out.2 HFX.out.z4
          have hk6 := HG5.out.m.below hR.out.2 HFX.out.z6
          have d6 : w7.cell? ⟨g6, 2, none⟩ = some (.slice VA l.length vc) := hk6.cell 2
          have e6 : w7.frozen? ⟨g6, 2, none⟩ = false := hk6.frozen 2
          obtain ⟨A7, c7, rfl⟩ := own_slice' hR.out.1)
        go_roundw
        case rel =>
          refine ⟨k + 1, nx, l ++ [((y : Int), n', s')], .slice A7 (l.length + 1) c7, by omega, by go_num, rfl, HNL.out, HGA2.out, by rw [List.length_append, HLK.out]; rfl, ?_⟩
          exact HG5.out.step HFX.out hR.out
        case measure => simp [intOf]; omega
      · obtain ⟨q, hq⟩ : ∃ q, q = argE y bs x := ⟨_, rfl⟩
        have hge := HNX.out.2 he
        rw [← hq] at hge he ⊢
        have hq0 : 0 < q := by omega
        have HR : Hid (mgetE o p bs sig = q) := by show _ = _; rw [HGE.out, hge, if_pos (by omega)]
        have dq : ((q : Int) != 0) = true := by rw [bne_iff_ne]; omega
        have HQ0 := Lib.hid hq0
        clear hok he hq hge hq0
        have c40 : w5.cell? ⟨g4, 0, none⟩ = some (.int .i64 0) := HG5.out.r.cell 0
        have f40 : w5.frozen? ⟨g4, 0, none⟩ = false := HG5.out.r.frozen 0
        have c41 : w5.cell? ⟨g4, 1, none⟩ = some (.int .i64 0) := HG5.out.r.cell 1
        have f41 : w5.frozen? ⟨g4, 1, none⟩ = false := HG5.out.r.frozen 1
        have c42 : w5.cell? ⟨g4, 2, none⟩ = some (.slice none 0 0) := HG5.out.r.cell 2
        have f42 : w5.frozen? ⟨g4, 2, none⟩ = false := HG5.out.r.frozen 2
        have c60 : w5.cell? ⟨g6, 0, none⟩ = some (.int .i64 o) := HG5.out.m.cell 0
        have f60 : w5.frozen? ⟨g6, 0, none⟩ = false := HG5.out.m.frozen 0
        have c61 : w5.cell? ⟨g6, 1, none⟩ = some (.int .i64 p) := HG5.out.m.cell 1
        have f61 : w5.frozen? ⟨g6, 1, none⟩ = false := HG5.out.m.frozen 1
        have c62 : w5.cell? ⟨g6, 2, none⟩ = some (.slice VA l.length vc) := HG5.out.m.cell 2
        have f62 : w5.frozen? ⟨g6, 2, none⟩ = false := HG5.out.m.frozen 2
        go_wp2_with fail
        refine bodyPost_ret (v := .tuple #[.agg #[.int .i64 0, .int .i64 0, .slice none 0 0], .int .i64 q]) (by simp [results, Tryd.results25, go_sem, *]) rfl ?_
        have hbb := HG5.out.bel4 HFX.out (.int .i64 0) (.int .i64 0) (.slice none 0 0)
        exact rget_err2 HR.out HQ0.out (hbb.alloc hbb.size _)
    · obtain rfl : k = sig.size := by omega
      have hga := HGA.out
      rw [List.take_of_length_le (by rw [HSL.out]; exact Nat.le_refl _)] at hga
      have HGE2 : Hid (mgetE o p bs sig = if x < m then 3 else checkE o p l sig) := by show _ = _; rw [HGE.out, hga]; simp
      have hfit := getArgs_fit bs sig.data.toList 0
      rw [hga] at hfit
      have HFIT : Hid (Fit l) := hfit
      have HGA3 := Lib.hid hga
      clear hga hfit
      have c40 : wr.cell? ⟨g4, 0, none⟩ = some (.int .i64 0) := HG.out.r.cell 0
      have f40 : wr.frozen? ⟨g4, 0, none⟩ = false := HG.out.r.frozen 0
      have c41 : wr.cell? ⟨g4, 1, none⟩ = some (.int .i64 0) := HG.out.r.cell 1
      have f41 : wr.frozen? ⟨g4, 1, none⟩ = false := HG.out.r.frozen 1
      have c42 : wr.cell? ⟨g4, 2, none⟩ = some (.slice none 0 0) := HG.out.r.cell 2
      have f42 : wr.frozen? ⟨g4, 2, none⟩ = false := HG.out.r.frozen 2
      have c60 : wr.cell? ⟨g6, 0, none⟩ = some (.int .i64 o) := HG.out.m.cell 0
      have f60 : wr.frozen? ⟨g6, 0, none⟩ = false := HG.out.m.frozen 0
      have c61 : wr.cell? ⟨g6, 1, none⟩ = some (.int .i64 p) := HG.out.m.cell 1
      have f61 : wr.frozen? ⟨g6, 1, none⟩ = false := HG.out.m.frozen 1
      have c62 : wr.cell? ⟨g6, 2, none⟩ = some (.slice VA l.length vc) := HG.out.m.cell 2
      have f62 : wr.frozen? ⟨g6, 2, none⟩ = false := HG.out.m.frozen 2
      by_cases hxl : x < m
      · have HR : Hid (mgetE o p bs sig = 3) := by show _ = _; rw [HGE2.out, if_pos hxl]
        have d1 : ((x : Int) != (m : Int)) = true := by rw [bne_iff_ne]; omega
        have d2 : (x != m) = true := by rw [bne_iff_ne]; omega
        go_wp2_with fail
        all_goals refine bodyPost_ret (v := .tuple #[.agg #[.int .i64 0, .int .i64 0, .slice none 0 0], .int .i64 3]) (by simp [results, Tryd.results25, go_sem, *]) rfl ?_
        all_goals exact rget_err2 (k := 3) HR.out (by omega) (HG.out.bel4 HFX.out _ _ _)
      · have hxe : x = m := by omega
        have d1 : ((x : Int) != (m : Int)) = false := by rw [bne_eq_false_iff_eq]; omega
        have d2 : (x != m) = false := by rw [bne_eq_false_iff_eq]; omega
        have HR : Hid (mgetE o p bs sig = checkE o p l sig) := by show _ = _; rw [HGE2.out, if_neg hxl]
        clear hxl hxe
        go_wp2_with fail
        refine (rcheck_any o p _ l sig wr (SlN.of_own HG.out.own) HFIT.out (by omega)).mono ?_
        rintro e w6 ⟨rfl, hb6⟩
        have HG6 := Lib.hid (HG.out.below hb6)
        have hce := checkE_le o p l sig
        clear hb6 c40 c41 c42 c60 c61 c62 f40 f41 f42 f60 f61 f62
        have c40 : w6.cell? ⟨g4, 0, none⟩ = some (.int .i64 0) := HG6.out.r.cell 0
        have f40 : w6.frozen? ⟨g4, 0, none⟩ = false := HG6.out.r.frozen 0
        have c41 : w6.cell? ⟨g4, 1, none⟩ = some (.int .i64 0) := HG6.out.r.cell 1
        have f41 : w6.frozen? ⟨g4, 1, none⟩ = false := HG6.out.r.frozen 1
        have c42 : w6.cell? ⟨g4, 2, none⟩ = some (.slice none 0 0) := HG6.out.r.cell 2
        have f42 : w6.frozen? ⟨g4, 2, none⟩ = false := HG6.out.r.frozen 2
        have c60 : w6.cell? ⟨g6, 0, none⟩ = some (.int .i64 o) := HG6.out.m.cell 0
        have f60 : w6.frozen? ⟨g6, 0, none⟩ = false := HG6.out.m.frozen 0
        have c61 : w6.cell? ⟨g6, 1, none⟩ = some (.int .i64 p) := HG6.out.m.cell 1
        have f61 : w6.frozen? ⟨g6, 1, none⟩ = false := HG6.out.m.frozen 1
        have c62 : w6.cell? ⟨g6, 2, none⟩ = some (.slice VA l.length vc) := HG6.out.m.cell 2
        have f62 : w6.frozen? ⟨g6, 2, none⟩ = false := HG6.out.m.frozen 2
        by_cases hc : checkE o p l sig = 0
        · rw [hc] at HR
          rw [hc]
          clear hc hce
          go_wp2_with fail
          refine bodyPost_ret (v := .tuple #[.agg #[.int .i64 o, .int .i64 p, .slice VA l.length vc], .int .i64 0]) (by simp [results, Tryd.results25, go_sem, *]) rfl ?_
          refine ⟨_, by rw [HR.out, if_pos rfl, if_pos rfl]; rfl, ?_, HG6.out.bel4 HFX.out _ _ _⟩
          unfold mgetL
          rw [HR.out, if_pos rfl, HGA3.out]
          exact HG6.out.args4 HFX.out _ _ _
        · have hc1 : checkE o p l sig = 1 := by omega
          rw [hc1] at HR
          rw [hc1]
          clear hc hce hc1
          go_wp2_with fail
          refine bodyPost_ret (v := .tuple #[.agg #[.int .i64 0, .int .i64 0, .slice none 0 0], .int .i64 1]) (by simp [results, Tryd.results25, go_sem, *]) rfl ?_
          exact rget_err2 (k := 1) HR.out (by omega) (HG6.out.bel4 HFX.out _ _ _)
end Go.Proofs.YtihbgkighckiiaaDoor
