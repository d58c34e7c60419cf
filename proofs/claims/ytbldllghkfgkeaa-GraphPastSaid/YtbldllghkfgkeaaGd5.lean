-- Written by heprint.py (this session's, over the kit's print.py): not trusted, Lean checks it.
import Derived.Test.YtbldllghkfgkeaaGd0
import Derived.Test.YtbldllghkfgkeaaGd1
import Derived.Test.YtbldllghkfgkeaaGd2
import Derived.Test.YtbldllghkfgkeaaGd3
import Derived.Test.YtbldllghkfgkeaaGd4
namespace Go.Proofs.Ytbldllghkfgkeaa.S
open Go.RowKit Go.Proofs.YtbldllghkfgkeaaW.PrintWords Go.Proofs.YtbldllghkfgkeaaW.PrintLast Go.Proofs.YtbldllghkfgkeaaW.PrintMore
attribute [local go_sem] max2_int min2_int max_two min_two max_three min_three max_four min_four   -- for this text's walks alone
set_option linter.unusedVariables false
set_option linter.unusedSimpArgs false

/-! ### pure Gr0 -/
-- PURE needs heliast/heliastlaw12.Graph needs heliast/heliastlaw12.known needs heliast/heliastref12.Same
open Go.Proofs.He
theorem rd_get {l : List Int} {i : Nat} (h : i < l.length) : rd l (i : Int) = l[i] := by simp [rd, h]
theorem g12_row (g : List (List Int)) (i : Nat) : rd_L1 g (i : Int) = g.getD i [] := by unfold rd_L1; rw [Int.toNat_natCast]
theorem g12_Same_l0 (a b : List Int) (hl : a.length = b.length) (hb : b.length < 4611686018427387904) (d : Nat) : ∀ (i k : Nat), i + d = a.length → d + 1 ≤ k → heliastref12_Same.l0 k a b (i : Int) = some (decide (a.drop i = b.drop i)) := by
  induction d with
  | zero =>
    intro i k hd hk
    obtain ⟨k, rfl⟩ : ∃ m, k = m + 1 := ⟨k - 1, by omega⟩
    simp only [heliastref12_Same.l0]
    rw [if_neg (by omega), List.drop_eq_nil_of_le (by omega), List.drop_eq_nil_of_le (by omega)]; rfl
  | succ d ih =>
    intro i k hd hk
    obtain ⟨k, rfl⟩ : ∃ m, k = m + 1 := ⟨k - 1, by omega⟩
    have hi : i < a.length := by omega
    have hj : i < b.length := by omega
    have hw : wrap64 ((i : Int) + 1) = ((i + 1 : Nat) : Int) := by rw [wrap_sm (by omega) (by omega)]; rfl
    have hd2 : (a.drop i = b.drop i) ↔ (a[i] = b[i] ∧ a.drop (i + 1) = b.drop (i + 1)) := by
      rw [List.drop_eq_getElem_cons hi, List.drop_eq_getElem_cons hj, List.cons.injEq]
    simp only [heliastref12_Same.l0]
    rw [if_pos (by omega), if_pos (by omega), if_pos (by omega), rd_get hi, rd_get hj, decide_eq_decide.2 hd2]
    by_cases he : a[i] = b[i]
    · rw [if_pos he, hw, ih (i + 1) k (by omega) (by omega)]
      simp only [he, true_and]
    · rw [if_neg he, decide_eq_false (fun h => he h.1)]
theorem g12_Same (a b : List Int) (hb : b.length < 4611686018427387904) (k : Nat) (hk : b.length + 1 ≤ k) : heliastref12_Same.f k a b = some (decide (a = b)) := by
  unfold heliastref12_Same.f
  by_cases hl : a.length = b.length
  · have h := g12_Same_l0 a b hl hb a.length 0 k (by omega) (by omega)
    rw [if_pos (by omega), show (0 : Int) = ((0 : Nat) : Int) from rfl, h]
    rfl
  · rw [if_neg (by omega)]
    have : a ≠ b := fun e => hl (by rw [e])
    simp [this]
/-! Graph -/
def g12_sel (c : List Int) (i j : Int) : Bool := decide ((Int.tmod (wrap64 ((wrap64 ((wrap64 (rd c i)) + (wrap64 (j * 7)))) + (wrap64 (rd c (Int.tmod (wrap64 (i + j)) (c.length : Int)))))) 5) = 0) || (decide (j = wrap64 (i - 1)) && decide ((Int.tmod (rd c i) 3) = 0))
theorem g12_Graph_l1 (c : List Int) (G : List (List Int)) (i : Nat) (hi : i < c.length) (hi2 : i < 24) (hG : G.length < 5864062014805) (d : Nat) : ∀ (j : Nat) (L : List Int) (K k : Nat), K = k + d + 1 → j + d = i → L.length ≤ j →
    heliastlaw12_Graph.l1 K c G (i : Int) L (j : Int) = heliastlaw12_Graph.l0 k c (G ++ [L ++ (seg j d).filter (g12_sel c i)]) (((i + 1 : Nat) : Int)) := by
  induction d with
  | zero =>
    intro j L K k hK hd hL
    subst hK
    have hw : wrap64 ((i : Int) + 1) = ((i + 1 : Nat) : Int) := by rw [wrap_sm (by omega) (by omega)]; rfl
    simp only [heliastlaw12_Graph.l1]
    rw [if_neg (by omega), if_pos hG, hw, seg_zero]
    simp
  | succ d ih =>
    intro j L K0 k hK hd hL
    obtain ⟨K, rfl⟩ : ∃ m, K0 = m + 1 := ⟨K0 - 1, by omega⟩
    have hw : wrap64 ((j : Int) + 1) = ((j + 1 : Nat) : Int) := by rw [wrap_sm (by omega) (by omega)]; rfl
    have hw2 : wrap64 ((i : Int) + j) = ((i + j : Nat) : Int) := by rw [wrap_sm (by omega) (by omega)]; rfl
    have hc0 : 0 < (c.length : Int) := by omega
    have hm0 : 0 ≤ Int.tmod ((i + j : Nat) : Int) (c.length : Int) := Int.tmod_nonneg _ (by omega)
    have hm1 : Int.tmod ((i + j : Nat) : Int) (c.length : Int) < (c.length : Int) := Int.tmod_lt_of_pos _ hc0
    simp only [heliastlaw12_Graph.l1]
    rw [if_pos (by omega), if_pos (by omega), if_pos (by omega), if_neg (by omega), hw2, if_pos hm0, if_pos hm1, hw, seg_succ]
    by_cases h1 : (Int.tmod (wrap64 ((wrap64 ((wrap64 (rd c i)) + (wrap64 ((j : Int) * 7)))) + (wrap64 (rd c (Int.tmod ((i + j : Nat) : Int) (c.length : Int)))))) 5) = 0
    · have hs : g12_sel c i j = true := by unfold g12_sel; rw [hw2, decide_eq_true h1]; rfl
      rw [if_pos h1, if_pos (by omega), ih (j + 1) (L ++ [(j : Int)]) K k (by omega) (by omega) (by simp; omega), List.filter_cons_of_pos hs]
      simp
    · rw [if_neg h1]
      by_cases h2 : (j : Int) = wrap64 ((i : Int) - 1)
      · rw [if_pos h2]
        by_cases h3 : (Int.tmod (rd c i) 3) = 0
        · have hs : g12_sel c i j = true := by unfold g12_sel; rw [hw2, decide_eq_false h1, decide_eq_true h2, decide_eq_true h3]; rfl
          rw [if_pos h3, if_pos (by omega), ih (j + 1) (L ++ [(j : Int)]) K k (by omega) (by omega) (by simp; omega), List.filter_cons_of_pos hs]
          simp
        · have hs : ¬ g12_sel c i j = true := by unfold g12_sel; rw [hw2, decide_eq_false h1, decide_eq_true h2, decide_eq_false h3]; simp
          rw [if_neg h3, ih (j + 1) L K k (by omega) (by omega) (by omega), List.filter_cons_of_neg hs]
      · have hs : ¬ g12_sel c i j = true := by unfold g12_sel; rw [hw2, decide_eq_false h1, decide_eq_false h2]; simp
        rw [if_neg h2, ih (j + 1) L K k (by omega) (by omega) (by omega), List.filter_cons_of_neg hs]
def g12_rows (c : List Int) (i d : Nat) : List (List Int) := (List.range' i d).map fun n => (seg 0 n).filter (g12_sel c n)
theorem g12_Graph_l0 (c : List Int) (m : Nat) (hm : m = min c.length 24) (d : Nat) : ∀ (i : Nat) (G : List (List Int)) (k : Nat), i + d = m → G.length = i → 30 * d + 3 ≤ k → heliastlaw12_Graph.l0 k c G (i : Int) = some (G ++ g12_rows c i d) := by
  induction d with
  | zero =>
    intro i G k hd hG hk
    obtain ⟨k, rfl⟩ : ∃ q, k = q + 2 := ⟨k - 2, by omega⟩
    simp only [heliastlaw12_Graph.l0, heliastlaw12_Graph.j1]
    by_cases h : (i : Int) < (c.length : Int)
    · rw [if_pos h, decide_eq_false (by omega)]; simp [g12_rows]
    · rw [if_neg h]; simp [g12_rows]
  | succ d ih =>
    intro i G k hd hG hk
    obtain ⟨k, rfl⟩ : ∃ q, k = (q + i + 1) + 2 := ⟨k - i - 3, by omega⟩
    have h1 := g12_Graph_l1 c G i (by omega) (by omega) (by omega) i 0 [] (k + i + 1) k rfl (by omega) (by simp)
    simp only [heliastlaw12_Graph.l0, heliastlaw12_Graph.j1]
    rw [if_pos (by omega), decide_eq_true (by omega), if_pos rfl, show (0 : Int) = ((0 : Nat) : Int) from rfl, h1, List.nil_append, ih (i + 1) _ k (by omega) (by simp; omega) (by omega)]
    unfold g12_rows
    rw [List.range'_succ, List.map_cons, List.append_assoc, List.singleton_append]
def g12_graph (c : List Int) : List (List Int) := g12_rows c 0 (min c.length 24)
theorem g12_Graph (c : List Int) (k : Nat) (hk : 1000 ≤ k) : heliastlaw12_Graph.f k c = some (g12_graph c) := by
  unfold heliastlaw12_Graph.f
  rw [show (0 : Int) = ((0 : Nat) : Int) from rfl, g12_Graph_l0 c (min c.length 24) rfl (min c.length 24) 0 [] k (by omega) rfl (by omega)]
  rfl
theorem g12_graph_length (c : List Int) : (g12_graph c).length = min c.length 24 := by simp [g12_graph, g12_rows]
theorem g12_graph_good (c : List Int) : BackG (g12_graph c) := by
  have key : ∀ n, n < (g12_graph c).length → (g12_graph c).getD n [] = (seg 0 n).filter (g12_sel c n) := by
    intro n hn
    rw [g12_graph_length] at hn
    unfold g12_graph g12_rows
    rw [List.getD_eq_getElem?_getD, List.getElem?_map, List.getElem?_range' hn]
    simp
  refine ⟨fun n hn => ?_, fun n hn x hx => ?_⟩
  · rw [key n hn]; exact (seg_rises 0 n).filter _
  · rw [key n hn] at hx
    have := mem_seg.1 (List.mem_filter.1 hx).1
    omega
theorem g12_graph_small (c : List Int) : (g12_graph c).length ≤ 24 := by rw [g12_graph_length]; omega
set_option maxRecDepth 100000 in
theorem g12_known_30 : heliastlaw12_known.f 30 = some true := by decide +kernel
theorem g12_known (k : Nat) (hk : 30 ≤ k) : heliastlaw12_known.f k = some true := by
  obtain ⟨d, rfl⟩ : ∃ d, k = 30 + d := ⟨k - 30, by omega⟩
  exact more_rounds heliastlaw12_known.mono 30 d true g12_known_30
theorem g12_Reach (g : List (List Int)) (l : List Int) (hg : g.length ≤ 24) : graph_Reach.f g l = some (rchL g l) := by unfold graph_Reach.f; rw [if_pos (by omega)]
theorem g12_Order (g : List (List Int)) (l r : List Int) (hg : g.length ≤ 24) : graph_Order.f g l r = some (ordL g l r) := by unfold graph_Order.f; rw [if_pos (by omega)]
theorem pickL_length (g : List (List Int)) (p : Int → Bool) : (pickL g p).length ≤ g.length := by
  unfold pickL; exact Nat.le_trans (List.length_filter_le _ _) (by simp)

/-! ### pure Gr1 -/
-- PURE needs heliast/heliastlaw12.Graph needs heliast/heliastlaw12.known needs heliast/heliastref12.Same needs heliast/heliastref12.Set
open Go.Proofs.He
theorem g12_Has_l0 (l : List Int) (x : Int) (hl : l.length < 4611686018427387904) (d : Nat) : ∀ (i k : Nat), i + d = l.length → d + 1 ≤ k → heliastref12_Has.l0 k l x (i : Int) = some (decide (x ∈ l.drop i)) := by
  induction d with
  | zero =>
    intro i k hd hk
    obtain ⟨k, rfl⟩ : ∃ m, k = m + 1 := ⟨k - 1, by omega⟩
    simp only [heliastref12_Has.l0]
    rw [if_neg (by omega), List.drop_eq_nil_of_le (by omega)]; simp
  | succ d ih =>
    intro i k hd hk
    obtain ⟨k, rfl⟩ : ∃ m, k = m + 1 := ⟨k - 1, by omega⟩
    have hi : i < l.length := by omega
    have hw : wrap64 ((i : Int) + 1) = ((i + 1 : Nat) : Int) := by rw [wrap_sm (by omega) (by omega)]; rfl
    simp only [heliastref12_Has.l0]
    rw [if_pos (by omega), if_pos (by omega), rd_get hi, List.drop_eq_getElem_cons hi]
    by_cases he : l[i] = x
    · rw [if_pos he]; simp [he]
    · rw [if_neg he, hw, ih (i + 1) k (by omega) (by omega)]
      have hx : x ≠ l[i] := fun e => he e.symm
      refine congrArg some (decide_eq_decide.2 ?_)
      rw [List.mem_cons]
      exact ⟨fun h => .inr h, fun h => h.resolve_left hx⟩
theorem g12_Has (l : List Int) (x : Int) (hl : l.length < 4611686018427387904) (k : Nat) (hk : l.length + 1 ≤ k) : heliastref12_Has.f k l x = some (decide (x ∈ l)) := by
  unfold heliastref12_Has.f
  rw [show (0 : Int) = ((0 : Nat) : Int) from rfl, g12_Has_l0 l x hl l.length 0 k (by omega) hk]; rfl
theorem g12_Set_l0 (g : List (List Int)) (l : List Int) (hg : g.length < 17592186044416) (hl : l.length < 4611686018427387904) (d : Nat) : ∀ (i : Nat) (out : List Int) (k : Nat), i + d = g.length → out.length ≤ i → d + l.length + 2 ≤ k →
    heliastref12_Set.l0 k g l out (i : Int) = some (out ++ (seg i d).filter (fun x => decide (x ∈ l))) := by
  induction d with
  | zero =>
    intro i out k hd ho hk
    obtain ⟨k, rfl⟩ : ∃ m, k = m + 1 := ⟨k - 1, by omega⟩
    simp only [heliastref12_Set.l0]
    rw [if_neg (by omega), seg_zero]; simp
  | succ d ih =>
    intro i out k hd ho hk
    obtain ⟨k, rfl⟩ : ∃ m, k = m + 1 := ⟨k - 1, by omega⟩
    have hw : wrap64 ((i : Int) + 1) = ((i + 1 : Nat) : Int) := by rw [wrap_sm (by omega) (by omega)]; rfl
    simp only [heliastref12_Set.l0]
    rw [if_pos (by omega), g12_Has l i hl k (by omega), Option.bind_some, hw, seg_succ]
    by_cases h : (i : Int) ∈ l
    · rw [if_pos (by simpa using h), if_pos (by omega), ih (i + 1) _ k (by omega) (by simp; omega) (by omega), List.filter_cons_of_pos (by simpa using h)]; simp
    · rw [if_neg (by simpa using h), ih (i + 1) _ k (by omega) (by omega) (by omega), List.filter_cons_of_neg (by simpa using h)]
theorem g12_Set (g : List (List Int)) (l : List Int) (hg : g.length < 17592186044416) (hl : l.length < 4611686018427387904) (k : Nat) (hk : g.length + l.length + 2 ≤ k) : heliastref12_Set.f k g l = some (setL g l) := by
  unfold heliastref12_Set.f setL
  rw [show (0 : Int) = ((0 : Nat) : Int) from rfl, g12_Set_l0 g l hg hl g.length 0 [] k (by omega) (by simp) hk, pickL_seg]; rfl

/-! ### pure Gr6 -/
-- PURE needs heliast/heliastlaw12.GraphPast
open Go.Proofs.He
theorem set_ofP {g : List (List Int)} {l : List Int} {p : Int → Bool} (h : ∀ x : Int, 0 ≤ x → x < g.length → (x ∈ l ↔ p x = true)) : setL g l = pickL g p := by
  refine rises_eq (pickL_rises g _) (pickL_rises g _) (fun x => ?_)
  rw [mem_setL, mem_pickL]
  constructor
  · rintro ⟨hv, hx⟩; exact ⟨hv, (h x hv.1 hv.2).1 hx⟩
  · rintro ⟨hv, hx⟩; exact ⟨hv, (h x hv.1 hv.2).2 hx⟩
theorem g12_Past (g : List (List Int)) (n : Int) (hg : g.length ≤ 24) : graph_Past.f g n = some (pastL g n) := by
  unfold graph_Past.f pastL
  by_cases h0 : n < 0
  · rw [if_pos h0, if_pos h0]
  · by_cases h1 : n ≥ g.length
    · rw [if_neg h0, if_pos h1, if_neg h0, if_pos h1]
    · rw [if_neg h0, if_neg h1, if_neg h0, if_neg h1, if_pos (by omega), if_pos (by omega), g12_Reach g _ hg]; rfl
theorem pastL_length (g : List (List Int)) (n : Int) : (pastL g n).length ≤ g.length := by
  unfold pastL
  split
  · simp
  · split
    · simp
    · exact pickL_length g _
theorem row_small {g : List (List Int)} (hG : BackG g) (hg : g.length ≤ 24) {n : Nat} (hn : n < g.length) : (g.getD n []).length ≤ 24 := by
  have := (rises_nodup (hG.rise n hn)).length_le_of_subset (l₂ := seg 0 n) (fun x hx => mem_seg.2 (by have := hG.back n hn x hx; omega))
  rw [seg_length] at this; omega
theorem GraphPast_l0 (g : List (List Int)) (hG : BackG g) (hg : g.length ≤ 24) (n : Nat) (hn : n < g.length) (d : Nat) : ∀ (i : Nat) (all : List Int) (k : Nat), i + d = (g.getD n []).length → all.length ≤ 25 * i → (∀ x, x ∈ all ↔ ∃ y ∈ (g.getD n []).take i, x = y ∨ x ∈ pastL g y) → d + 1000 ≤ k →
    heliastlaw12_GraphPast.l0 k g (n : Int) all (i : Int) = some true := by
  have hlen := row_small hG hg hn
  induction d with
  | zero =>
    intro i all k hd hal hm hk
    obtain ⟨k, rfl⟩ : ∃ m, k = m + 1 := ⟨k - 1, by omega⟩
    have hpe : pastL g (n : Int) = rchL g (g.getD n []) := by rw [pastL_eq (by omega) (by omega), Int.toNat_natCast]
    have hpl := pastL_length g (n : Int)
    rw [List.take_of_length_le (by omega)] at hm
    have e1 : setL g all = pastL g (n : Int) := by
      rw [hpe]
      refine set_ofP (fun x h0 h1 => ?_)
      rw [hm, rchB_iff, Rch_first hG]
      constructor
      · rintro ⟨y, hy, h⟩
        have hb := hG.back n hn y hy
        rcases h with rfl | h
        · exact .inl ⟨hy, by omega, by omega⟩
        · rw [pastL_eq (by omega) (by omega), mem_rchL] at h
          exact .inr ⟨y, hy, ⟨by omega, by omega⟩, h⟩
      · rintro (⟨h, _⟩ | ⟨y, hy, hv, h⟩)
        · exact ⟨x, h, .inl rfl⟩
        · exact ⟨y, hy, .inr (by rw [pastL_eq hv.1 hv.2, mem_rchL]; exact h)⟩
    have hnot : ∀ x ∈ pastL g (n : Int), x < n := by
      intro x hx
      rw [hpe, mem_rchL] at hx
      have := Rch_below hG (n := (n : Int)) (by omega) (by omega) (by rw [Int.toNat_natCast]; exact hx)
      exact this
    have e2 : rchL g [(n : Int)] = pastL g (n : Int) ++ [(n : Int)] := by
      refine rises_eq (pickL_rises g _) ?_ (fun x => ?_)
      · refine List.pairwise_append.2 ⟨by rw [hpe]; exact pickL_rises g _, by simp, fun a ha b hb => ?_⟩
        rw [List.mem_singleton.1 hb]; exact hnot a ha
      · show x ∈ rchL g [(n : Int)] ↔ _
        rw [mem_rchL, Rch_first hG, List.mem_append, List.mem_singleton, hpe, mem_rchL]
        constructor
        · rintro (⟨h, _⟩ | ⟨y, hy, hv, h⟩)
          · exact .inr (by simpa using h)
          · rw [List.mem_singleton.1 hy, Int.toNat_natCast] at h; exact .inl h
        · rintro (h | rfl)
          · exact .inr ⟨n, by simp, ⟨by omega, by omega⟩, by rw [Int.toNat_natCast]; exact h⟩
          · exact .inl ⟨by simp, by omega, by omega⟩
    have hno : (n : Int) ∉ pastL g (n : Int) := fun h => by have := hnot _ h; omega
    simp only [heliastlaw12_GraphPast.l0]
    rw [g12_row, if_pos (by omega), if_pos (by omega), if_neg (by omega), g12_Past g _ hg, Option.bind_some]
    simp only [List.nil_append, List.length_nil, Nat.zero_add, Option.bind_some]
    rw [if_pos (by omega), if_pos (by omega), g12_known k (by omega), Option.bind_some, if_pos rfl, g12_Set g _ (by omega) (by omega) k (by omega), Option.bind_some, e1, g12_Same _ _ (by omega) k (by omega), Option.bind_some, if_pos (by simp), g12_Reach g _ hg, Option.bind_some, e2,
      g12_Same _ _ (by simp; omega) k (by simp; omega), Option.bind_some, if_pos (by simp), g12_Has _ _ (by omega) k (by omega), Option.bind_some]
    simp [hno]
  | succ d ih =>
    intro i all k hd hal hm hk
    obtain ⟨k, rfl⟩ : ∃ m, k = m + 1 := ⟨k - 1, by omega⟩
    have hi : i < (g.getD n []).length := by omega
    have hw : wrap64 ((i : Int) + 1) = ((i + 1 : Nat) : Int) := by rw [wrap_sm (by omega) (by omega)]; rfl
    have hpl := pastL_length g (g.getD n [])[i]
    simp only [heliastlaw12_GraphPast.l0]
    rw [g12_row, if_pos (by omega), if_pos (by omega), if_pos (by omega), if_pos (by omega), if_pos (by omega), Option.bind_some, g12_Past g _ hg, Option.bind_some, rd_get hi, if_pos (by rw [List.length_append, List.length_singleton]; omega), hw]
    refine ih (i + 1) _ k (by omega) (by rw [List.length_append, List.length_append, List.length_singleton]; omega) (fun x => ?_) (by omega)
    rw [List.mem_append, List.mem_append, List.mem_singleton, hm, List.take_succ_eq_append_getElem hi]
    constructor
    · rintro ((⟨y, hy, h⟩ | rfl) | h)
      · exact ⟨y, List.mem_append_left _ hy, h⟩
      · exact ⟨_, List.mem_append_right _ (List.mem_singleton.2 rfl), .inl rfl⟩
      · exact ⟨_, List.mem_append_right _ (List.mem_singleton.2 rfl), .inr h⟩
    · rintro ⟨y, hy, h⟩
      rcases List.mem_append.1 hy with hy | hy
      · exact .inl (.inl ⟨y, hy, h⟩)
      · rw [List.mem_singleton.1 hy] at h
        rcases h with rfl | h
        · exact .inl (.inr rfl)
        · exact .inr h
theorem g12_mod' {a : Int} (h0 : 0 ≤ a) {m : Nat} (hm : 0 < m) : ∃ n : Nat, n < m ∧ Int.tmod a (m : Int) = (n : Int) := by
  have h1 : 0 ≤ Int.tmod a (m : Int) := Int.tmod_nonneg _ h0
  have h2 : Int.tmod a (m : Int) < (m : Int) := Int.tmod_lt_of_pos _ (by omega)
  exact ⟨(Int.tmod a (m : Int)).toNat, by omega, by omega⟩
theorem GraphPast_pure : heliastlaw12_GraphPast.Pure := by
  intro c a1 hm hl hc ha
  have ha' : 0 ≤ a1 ∧ a1 ≤ 255 := u8_bd (c := [a1]) (by simpa using ha) a1 (by simp)
  refine ⟨3000, ?_⟩
  unfold heliastlaw12_GraphPast.f
  rw [g12_Graph c 3000 (by omega), Option.bind_some]
  have hG := g12_graph_good c
  have hg := g12_graph_small c
  generalize g12_graph c = g at hG hg ⊢
  by_cases h0 : (g.length : Int) = 0
  · rw [if_pos h0, g12_known 3000 (by omega)]; rfl
  · rw [if_neg h0, wrap_sm (by omega) (by omega)]
    obtain ⟨n, hn, e⟩ := g12_mod' ha'.1 (show 0 < g.length by omega)
    rw [e]
    have := row_small hG hg hn
    exact GraphPast_l0 g hG hg n hn (g.getD n []).length 0 [] 3000 (by omega) (by simp) (fun x => by simp) (by omega)

end Go.Proofs.Ytbldllghkfgkeaa.S
