-- Written by heprint.py (this session's, over the kit's print.py): not trusted, Lean checks it.
import Derived.Test.YtmmalieacakcbaaHa0
import Derived.Test.YtmmalieacakcbaaHa2
import Derived.Test.YtmmalieacakcbaaHa3
import Derived.Test.YtmmalieacakcbaaHa5
namespace Go.Proofs.Ytmmalieacakcbaa.S
open Go.RowKit Go.Proofs.YtmmalieacakcbaaW.PrintWords Go.Proofs.YtmmalieacakcbaaW.PrintLast Go.Proofs.YtmmalieacakcbaaW.PrintMore
attribute [local go_sem] max2_int min2_int max_two min_two max_three min_three max_four min_four   -- for this text's walks alone
set_option linter.unusedVariables false
set_option linter.unusedSimpArgs false

/-! ### pure Gr4 -/
-- PURE needs heliast/heliastlaw12.Graph needs heliast/heliastlaw12.known needs heliast/heliastref12.Set needs heliast/heliastlaw12.Some
open Go.Proofs.He
theorem g12_Some_l0 (c : List Int) (d : Nat) : ∀ (i : Nat) (L : List Int) (k : Nat), i + d = min c.length 20 → L.length = i → d + 2 ≤ k → ∃ L', heliastlaw12_Some.l0 k c L (i : Int) = some L' ∧ L'.length ≤ 20 := by
  induction d with
  | zero =>
    intro i L k hd hL hk
    obtain ⟨k, rfl⟩ : ∃ m, k = m + 1 := ⟨k - 1, by omega⟩
    refine ⟨L, ?_, by omega⟩
    simp only [heliastlaw12_Some.l0]
    by_cases h : (i : Int) < (c.length : Int)
    · rw [if_pos h, if_neg (by omega)]
    · rw [if_neg h]
  | succ d ih =>
    intro i L k hd hL hk
    obtain ⟨k, rfl⟩ : ∃ m, k = m + 1 := ⟨k - 1, by omega⟩
    have hw : wrap64 ((i : Int) + 1) = ((i + 1 : Nat) : Int) := by rw [wrap_sm (by omega) (by omega)]; rfl
    simp only [heliastlaw12_Some.l0]
    rw [if_pos (by omega), if_pos (by omega), if_pos (by omega), if_pos (by omega), hw]
    exact ih (i + 1) _ k (by omega) (by simp; omega) (by omega)
theorem g12_Some (c : List Int) : ∃ L, L.length ≤ 20 ∧ ∀ k, 30 ≤ k → heliastlaw12_Some.f k c = some L := by
  obtain ⟨L, h, hl⟩ := g12_Some_l0 c (min c.length 20) 0 [] 30 (by omega) rfl (by omega)
  refine ⟨L, hl, fun k hk => ?_⟩
  obtain ⟨d, rfl⟩ : ∃ d, k = 30 + d := ⟨k - 30, by omega⟩
  exact more_rounds (heliastlaw12_Some.mono c) 30 d L h
theorem set_of {g : List (List Int)} {l : List Int} {p : Int → Bool} (h : ∀ x : Int, 0 ≤ x → x < g.length → (x ∈ l ↔ p x = true)) : setL g l = pickL g p := by
  refine rises_eq (pickL_rises g _) (pickL_rises g _) (fun x => ?_)
  rw [mem_setL, mem_pickL]
  constructor
  · rintro ⟨hv, hx⟩; exact ⟨hv, (h x hv.1 hv.2).1 hx⟩
  · rintro ⟨hv, hx⟩; exact ⟨hv, (h x hv.1 hv.2).2 hx⟩

/-! ### pure Gr9 -/
-- PURE needs heliast/heliastlaw12.GraphHeads needs heliast/graph.Heads needs heliast/heliastlaw12.Some needs heliast/heliastlaw12.Graph needs heliast/heliastlaw12.known needs heliast/heliastref12.Set needs heliast/heliastref12.Same
open Go.Proofs.He
theorem row_smallH {g : List (List Int)} (hG : BackG g) (hg : g.length ≤ 24) {n : Nat} (hn : n < g.length) : (g.getD n []).length ≤ 24 := by
  have := (rises_nodup (hG.rise n hn)).length_le_of_subset (l₂ := seg 0 n) (fun x hx => mem_seg.2 (by have := hG.back n hn x hx; omega))
  rw [seg_length] at this; omega
theorem flat_len : ∀ (G : List (List Int)), (∀ r ∈ G, r.length ≤ 24) → G.flatten.length ≤ 24 * G.length
  | [], _ => by simp
  | r :: G, h => by
    have h1 := h r List.mem_cons_self
    have h2 := flat_len G (fun x hx => h x (List.mem_cons_of_mem _ hx))
    rw [List.flatten_cons, List.length_append, List.length_cons]; omega
theorem g12_Heads (g : List (List Int)) (l : List Int) (hG : BackG g) (hg : g.length ≤ 24) : graph_Heads.f g l = some (headL g l) := by
  have key : ∀ r ∈ g, ∃ n, n < g.length ∧ g.getD n [] = r := fun r hr => by
    obtain ⟨n, hn, rfl⟩ := List.getElem_of_mem hr
    exact ⟨n, hn, by rw [List.getD_eq_getElem?_getD, List.getElem?_eq_getElem hn, Option.getD_some]⟩
  unfold graph_Heads.f
  refine if_pos ⟨by omega, fun x hx => ?_, ?_⟩
  · obtain ⟨r, hr, hx⟩ := List.mem_flatten.1 hx
    obtain ⟨n, hn, rfl⟩ := key r hr
    have := hG.back n hn x hx
    exact Go.WalkArith.wf_i64 (by omega)
  · have := flat_len g (fun r hr => by obtain ⟨n, hn, rfl⟩ := key r hr; exact row_smallH hG hg hn)
    omega
theorem setL_self {g : List (List Int)} {l : List Int} (hp : l.Pairwise (· < ·)) (hv : ∀ x ∈ l, 0 ≤ x ∧ x < g.length) : setL g l = l :=
  rises_eq (pickL_rises g _) hp (fun x => by show x ∈ setL g l ↔ _; rw [mem_setL]; exact ⟨fun h => h.2, fun h => ⟨hv x h, h⟩⟩)
theorem mem_headL {g : List (List Int)} {l : List Int} (hs : setL g l = l) (x : Int) : x ∈ headL g l ↔ x ∈ l ∧ ∀ n ∈ l, x ∉ g.getD n.toNat [] := by
  unfold headL
  rw [hs, List.mem_filter]
  simp
theorem head_one {g : List (List Int)} (hG : BackG g) {n : Int} (h0 : 0 ≤ n) (h1 : n < g.length) : headL g (rchL g [n]) = [n] := by
  have hr : (rchL g [n]).Pairwise (· < ·) := pickL_rises g _
  have hv : ∀ x ∈ rchL g [n], 0 ≤ x ∧ x < g.length := fun x hx => (mem_rchL.1 hx).valid
  have hs := setL_self hr hv
  have hle : ∀ x, Rch g [n] x → x ≤ n := fun x hx => by
    induction hx with
    | base h _ _ => rw [List.mem_singleton.1 h]; omega
    | step _ h ih => have := h.2.2.2; omega
  have hroot : ∀ x, Rch g [n] x → x = n ∨ ∃ a, Rch g [n] a ∧ x ∈ g.getD a.toNat [] := fun x hx => by
    cases hx with
    | base h _ _ => exact .inl (List.mem_singleton.1 h)
    | step ha h => exact .inr ⟨_, ha, h.2.1⟩
  refine rises_eq ?_ (by simp) (fun x => ?_)
  · exact (by unfold headL; exact (pickL_rises g _).filter _ : (headL g (rchL g [n])).Pairwise (· < ·))
  · rw [mem_headL hs, List.mem_singleton, mem_rchL]
    constructor
    · rintro ⟨hx, hno⟩
      rcases hroot x hx with h | ⟨a, ha, hm⟩
      · exact h
      · exact absurd hm (hno a (mem_rchL.2 ha))
    · rintro rfl
      refine ⟨.base (by simp) h0 h1, fun a ha hm => ?_⟩
      have hav := (mem_rchL.1 ha).valid
      have h2 := hG.back a.toNat (by omega) x hm
      have h3 := hle a (mem_rchL.1 ha)
      omega
theorem GraphHeads_l1 (g : List (List Int)) (hG : BackG g) (hg : g.length ≤ 24) (S : List Int) (hS : ∀ x ∈ S, 0 ≤ x ∧ x < g.length) (hSl : S.length ≤ 24) (hs : setL g S = S) (x2 : Int) (i : Nat) (hi : i < S.length) (d : Nat) : ∀ (j : Nat) (flag : Bool) (k K : Nat), K = k + d + 1 → j + d = S.length → 100 ≤ k →
    (flag || (S.drop j).any (fun n => decide (S[i] ∈ g.getD n.toNat []))) = S.any (fun n => decide (S[i] ∈ g.getD n.toNat [])) →
    heliastlaw12_GraphHeads.l1 K x2 g S (headL g S) (i : Int) flag (j : Int) = heliastlaw12_GraphHeads.l0 k x2 g S (headL g S) ((i + 1 : Nat) : Int) := by
  have hwi : wrap64 ((i : Int) + 1) = ((i + 1 : Nat) : Int) := by rw [wrap_sm (by omega) (by omega)]; rfl
  have hhl : (headL g S).length ≤ 24 := by unfold headL; have := List.length_filter_le (fun x => !((setL g S).any fun n => decide (x ∈ g.getD n.toNat []))) (setL g S); rw [hs] at this ⊢; omega
  induction d with
  | zero =>
    intro j flag k K hK hd hk ht
    subst hK
    rw [List.drop_eq_nil_of_le (by omega)] at ht
    simp only [List.any_nil, Bool.or_false] at ht
    simp only [heliastlaw12_GraphHeads.l1]
    rw [if_neg (by omega), if_pos (by omega), if_pos (by omega), rd_get hi, g12_Has _ _ (by omega) k (by omega), Option.bind_some, hwi]
    have hm : decide (S[i] ∈ headL g S) = !flag := by
      rw [ht, Bool.eq_iff_iff, decide_eq_true_iff, mem_headL hs, Bool.not_eq_true', List.any_eq_false]
      simp [List.getElem_mem hi]
    rw [hm, if_neg (by cases flag <;> simp)]
  | succ d ih =>
    intro j flag k K0 hK hd hk ht
    obtain ⟨K, rfl⟩ : ∃ m, K0 = m + 1 := ⟨K0 - 1, by omega⟩
    have hj : j < S.length := by omega
    have hw : wrap64 ((j : Int) + 1) = ((j + 1 : Nat) : Int) := by rw [wrap_sm (by omega) (by omega)]; rfl
    have hvj := hS _ (List.getElem_mem hj)
    have hrow := row_smallH hG hg (n := S[j].toNat) (by omega)
    have hrr : rd_L1 g S[j] = g.getD S[j].toNat [] := rfl
    rw [List.drop_eq_getElem_cons hj, List.any_cons] at ht
    simp only [heliastlaw12_GraphHeads.l1]
    rw [if_pos (by omega), hw]
    cases flag with
    | true =>
      rw [if_pos rfl]
      exact ih (j + 1) true k K (by omega) (by omega) hk (by simpa using ht)
    | false =>
      rw [if_neg (by simp), if_pos (by omega), rd_get hj, rd_get hi, if_pos hvj.1, if_pos hvj.2, if_pos (by omega), if_pos (by omega), hrr, g12_Has _ _ (by omega) K (by omega), Option.bind_some]
      exact ih (j + 1) _ k K (by omega) (by omega) hk (by simpa using ht)
theorem GraphHeads_l0 (g : List (List Int)) (hG : BackG g) (hg : g.length ≤ 24) (S : List Int) (hS : ∀ x ∈ S, 0 ≤ x ∧ x < g.length) (hSl : S.length ≤ 24) (hs : setL g S = S) (x2 : Int) (h2 : 0 ≤ x2 ∧ x2 ≤ 255) (d : Nat) : ∀ (i k : Nat), i + d = S.length → 40 * d + 300 ≤ k →
    heliastlaw12_GraphHeads.l0 k x2 g S (headL g S) (i : Int) = some true := by
  induction d with
  | zero =>
    intro i k hd hk
    obtain ⟨k, rfl⟩ : ∃ m, k = m + 1 := ⟨k - 1, by omega⟩
    have hhl : (headL g S).length ≤ S.length := by unfold headL; have := List.length_filter_le (fun x => !((setL g S).any fun n => decide (x ∈ g.getD n.toNat []))) (setL g S); rw [hs] at this ⊢; omega
    simp only [heliastlaw12_GraphHeads.l0]
    rw [if_neg (by omega)]
    by_cases h0 : (g.length : Int) = 0
    · rw [if_pos h0, g12_known k (by omega)]; rfl
    · rw [wrap_sm (i := x2) (by omega) (by omega), if_neg h0, g12_known k (by omega), Option.bind_some, if_pos rfl, if_pos (by omega), g12_Reach g _ hg, Option.bind_some, g12_Heads g _ hG hg, Option.bind_some,
        head_one hG (Int.tmod_nonneg _ h2.1) (Int.tmod_lt_of_pos _ (by omega)), g12_Same _ _ (by simp) k (by simp; omega), Option.bind_some]
      simp
  | succ d ih =>
    intro i k hd hk
    obtain ⟨q, rfl⟩ : ∃ q, k = (q + S.length + 1) + 1 := ⟨k - S.length - 2, by omega⟩
    have hi : i < S.length := by omega
    simp only [heliastlaw12_GraphHeads.l0]
    rw [if_pos (by omega), show (0 : Int) = ((0 : Nat) : Int) from rfl, GraphHeads_l1 g hG hg S hS hSl hs x2 i hi S.length 0 false q _ rfl (by omega) (by omega) (by simp)]
    exact ih (i + 1) q (by omega) (by omega)
theorem GraphHeads_pure : heliastlaw12_GraphHeads.Pure := by
  intro c d a2 hm hl hc hm2 hl2 hc2 h2
  refine ⟨3000, ?_⟩
  unfold heliastlaw12_GraphHeads.f
  have hg := g12_graph_small c
  have hG := g12_graph_good c
  obtain ⟨L, hL, hs⟩ := g12_Some d
  have ha := u8_bd (c := [a2]) (by simpa using h2) a2 (by simp)
  have hp : (setL (g12_graph c) L).Pairwise (· < ·) := pickL_rises _ _
  have hv : ∀ x ∈ setL (g12_graph c) L, 0 ≤ x ∧ x < (g12_graph c).length := fun x hx => (mem_setL.1 hx).1
  have hlen : (setL (g12_graph c) L).length ≤ 24 := Nat.le_trans (pickL_length _ _) hg
  rw [g12_Graph c 3000 (by omega), Option.bind_some, hs 3000 (by omega), Option.bind_some, g12_Set _ _ (by omega) (by omega) 3000 (by omega), Option.bind_some, g12_Heads _ _ hG hg, Option.bind_some]
  exact GraphHeads_l0 _ hG hg _ hv hlen (setL_self hp hv) a2 ha (setL (g12_graph c) L).length 0 3000 (by omega) (by omega)

end Go.Proofs.Ytmmalieacakcbaa.S
