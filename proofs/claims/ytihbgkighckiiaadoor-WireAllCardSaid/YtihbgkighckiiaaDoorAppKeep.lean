/- An append that leaves what it was put onto as it was. No condition. -/
import Derived.Test.YtihbgkighckiiaaDoorApp
namespace Go.Proofs.YtihbgkighckiiaaDoor
open Go.RowKit

theorem SlN.prefix_ {w : World} {B n m c : Nat} {A : Option Addr} {xs ys : List Value} (h : SlN w B 1 (.slice A (n + m) c) (n + m) (xs ++ ys)) (hx : xs.length = n) : SlN w B 1 (.slice A n c) n xs := by
  obtain ⟨_, A', c', hv, hc, hm, h0, hcell⟩ := h
  injection hv with e1 e2 e3
  subst e1 e3
  refine ⟨by omega, A, c, rfl, by omega, hm, h0, fun hn => ?_⟩
  obtain ⟨b, off, hA, hB, hx2⟩ := hcell (by omega)
  exact ⟨b, off, hA, hB, fun j u hu => hx2 j u (by rw [List.getElem?_append_left (List.getElem?_eq_some_iff.1 hu).1]; exact hu)⟩
section
variable {P : Program} {w : World} {t e ty : TypeId} {i : TypeInfo} {z : Value}
theorem run_app_keep {base B2 n m c2 : Nat} {A2 : Option Addr} {v : Value} {xs ys : List Value} (ht : P.underlying t = some (.slice e)) (hi : P.info? e = some i) (hz : i.zero = some z) (hs1 : i.size = 1) (hz1 : z.cells.size = 1)
    (hown : w.ownsRow base e 1 v n xs) (hs : SlN w B2 1 (.slice A2 m c2) m ys) (h1 : ∀ u ∈ ys, u.oneCell' = true) (hbase : base ≤ w.heap.size)
    (hb : n + m ≤ 140737488500000 ∧ ((n + m) * i.bytes ≤ 140737488355328 ∨ i.bytes = 1)) :
    ∃ v' w', (Builtin.append_ #[t, t] ty #[v, .slice A2 m c2]).run P w = .ok v' w' ∧ (w'.ownsRow base e 1 v' (n + m) (xs ++ ys) ∧ Below base w w' ∧ SlN w' w'.heap.size 1 v n xs) := by
  have hxn : xs.length = n := by simpa using hown.1
  have hown0 := hown
  have hs' := hs
  obtain ⟨hl2, A2', c2', hv2, hc2, hm2, _, hx2⟩ := hs
  injection hv2 with e1 e2 e3
  subst e1; subst e3
  have hbel : Below base w w := Below.refl _ _
  rcases hown.2 with ⟨rfl, rfl⟩ | ⟨g, cap, cur, rfl, hbg, hg, hnc, hcm, hcs, htake⟩
  · have hx0 : xs = [] := List.eq_nil_of_length_eq_zero (by simpa using hown.1)
    subst hx0
    have hk : ∀ w' : World, SlN w' w'.heap.size 1 (.slice none 0 0) 0 [] := fun w' => Sl.nil_ w' _
    rcases Nat.eq_zero_or_pos m with rfl | hm0
    · have : ys = [] := List.eq_nil_of_length_eq_zero (by simpa using hl2)
      subst this
      exact ⟨_, _, run_app_none ht hi (Nat.le_refl _), hown, hbel, hk _⟩
    · obtain ⟨v', w', hr, h2, h3⟩ := run_app_full (ty := ty) (B := 0) (xs := []) ht hi hz hs1 hz1 ⟨rfl, none, 0, rfl, Nat.le_refl _, by simp, fun _ => rfl, fun h => absurd h (Nat.lt_irrefl _)⟩ hs' (by omega) hb
      refine ⟨v', w', hr, ?_, h3.mono hbase, hk _⟩
      obtain ⟨h4, h5⟩ := h2
      refine ⟨h4, ?_⟩
      rcases h5 with h5 | ⟨g, cap, cur, hv, hbg, r⟩
      · exact .inl h5
      · exact .inr ⟨g, cap, cur, hv, by omega, r⟩
  · by_cases hroom : n + m ≤ cap
    · have hlen : (xs ++ ys).length = (n + m) * 1 := by rw [List.length_append, hown.1, hl2]; omega
      rcases Nat.eq_zero_or_pos m with rfl | hm0
      · have : ys = [] := List.eq_nil_of_length_eq_zero (by simpa using hl2)
        subst this
        exact ⟨_, _, run_app_none ht hi hnc, by simpa using hown, hbel, SlN.of_own hown0⟩
      · obtain ⟨b2, off2, rfl, _, hx2⟩ := hx2 hm0
        have hnews : ∀ j u, ys[j]? = some u → w.cell? ((⟨b2, off2, none⟩ : Addr).add j) = some u := fun j u hu => by rw [add_of_lit]; exact hx2 j u hu
        have hfit : n * i.size + ys.length ≤ cur.size := by rw [hl2, hcs, hs1]; omega
        have hr := run_append_room (P := P) w t ty e i ht hi g n cap cur hg ⟨b2, off2, none⟩ m c2 ys (by rw [hl2, hs1]) hnews h1 hroom hfit
        have hnew : World.ownsRow _ base e 1 (.slice (some ⟨g, 0, none⟩) (n + m) cap) (n + m) (xs ++ ys) := ⟨hlen, .inr ⟨g, cap, _, rfl, hbg, setRow_heap w g cur (cur.toList.take (n * i.size) ++ ys ++ cur.toList.drop (n * i.size + ys.length)).toArray e _ hg, hroom, hcm, by
          simp only [List.size_toArray, List.length_append, List.length_take, List.length_drop, Array.length_toList]
          omega, by
          rw [hs1, htake, ← hlen]
          exact List.take_left⟩⟩
        exact ⟨_, _, hr, hnew, hbel.grown (w := w) (row := some g) ⟨rfl, rfl, rfl, by simp, fun k _ hk => setRow_other w g k _ (fun e => hk (by rw [e]))⟩ hbase (fun k hk => by cases hk; exact hbg), (SlN.of_own hnew).prefix_ hxn⟩
    · have hd : SlN w w.heap.size 1 (.slice (some ⟨g, 0, none⟩) n cap) n xs := SlN.of_own hown
      obtain ⟨v', w', hr, h2, h3⟩ := run_app_full (ty := ty) ht hi hz hs1 hz1 hd hs' (by omega) hb
      refine ⟨v', w', hr, ?_, h3.mono hbase, (hd.below h3).more h3.size⟩
      obtain ⟨h4, h5⟩ := h2
      refine ⟨h4, ?_⟩
      rcases h5 with h5 | ⟨g, cap, cur, hv, hbg, r⟩
      · exact .inl h5
      · exact .inr ⟨g, cap, cur, hv, by omega, r⟩
end
end Go.Proofs.YtihbgkighckiiaaDoor
