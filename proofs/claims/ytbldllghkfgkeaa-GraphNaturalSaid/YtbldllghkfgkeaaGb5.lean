-- Written by heprint.py (this session's, over the kit's print.py): not trusted, Lean checks it.
import Derived.Test.YtbldllghkfgkeaaGb0
import Derived.Test.YtbldllghkfgkeaaGb4
namespace Go.Proofs.Ytbldllghkfgkeaa.S
open Go.RowKit Go.Proofs.YtbldllghkfgkeaaW.PrintWords Go.Proofs.YtbldllghkfgkeaaW.PrintLast Go.Proofs.YtbldllghkfgkeaaW.PrintMore
attribute [local go_sem] max2_int min2_int max_two min_two max_three min_three max_four min_four   -- for this text's walks alone
set_option linter.unusedVariables false
set_option linter.unusedSimpArgs false

/-! ### pure Gr1 -/
-- PURE needs heliast/heliastlaw12.Graph needs heliast/heliastlaw12.known needs heliast/heliastref12.Same needs heliast/heliastref12.Set
open Go.Proofs.He
theorem g12_Has_l0 (l : List Int) (x : Int) (hl : l.length < 4611686018427387904) (d : Nat) : ∀ (i k : Nat), i + d = l.length → d + 1 ≤ k → heliastref12_Has.l0 k l x (i : Int) = some (decide (x ∈ l.drop i)) := by
  induction d with
  | zero =>
    intro i k hd hk
    obtain ⟨k, rfl⟩ : ∃ m, k = m + 1 := ⟨k - 1, by omega⟩
    simp only [heliastref12_Has.l0]
    rw [if_neg (by omega), List.drop_eq_nil_of_le (by omega)]; simp
  | succ d ih =>
    intro i k hd hk
    obtain ⟨k, rfl⟩ : ∃ m, k = m + 1 := ⟨k - 1, by omega⟩
    have hi : i < l.length := by omega
    have hw : wrap64 ((i : Int) + 1) = ((i + 1 : Nat) : Int) := by rw [wrap_sm (by omega) (by omega)]; rfl
    simp only [heliastref12_Has.l0]
    rw [if_pos (by omega), if_pos (by omega), rd_get hi, List.drop_eq_getElem_cons hi]
    by_cases he : l[i] = x
    · rw [if_pos he]; simp [he]
    · rw [if_neg he, hw, ih (i + 1) k (by omega) (by omega)]
      have hx : x ≠ l[i] := fun e => he e.symm
      refine congrArg some (decide_eq_decide.2 ?_)
      rw [List.mem_cons]
      exact ⟨fun h => .inr h, fun h => h.resolve_left hx⟩
theorem g12_Has (l : List Int) (x : Int) (hl : l.length < 4611686018427387904) (k : Nat) (hk : l.length + 1 ≤ k) : heliastref12_Has.f k l x = some (decide (x ∈ l)) := by
  unfold heliastref12_Has.f
  rw [show (0 : Int) = ((0 : Nat) : Int) from rfl, g12_Has_l0 l x hl l.length 0 k (by omega) hk]; rfl
theorem g12_Set_l0 (g : List (List Int)) (l : List Int) (hg : g.length < 17592186044416) (hl : l.length < 4611686018427387904) (d : Nat) : ∀ (i : Nat) (out : List Int) (k : Nat), i + d = g.length → out.length ≤ i → d + l.length + 2 ≤ k →
    heliastref12_Set.l0 k g l out (i : Int) = some (out ++ (seg i d).filter (fun x => decide (x ∈ l))) := by
  induction d with
  | zero =>
    intro i out k hd ho hk
    obtain ⟨k, rfl⟩ : ∃ m, k = m + 1 := ⟨k - 1, by omega⟩
    simp only [heliastref12_Set.l0]
    rw [if_neg (by omega), seg_zero]; simp
  | succ d ih =>
    intro i out k hd ho hk
    obtain ⟨k, rfl⟩ : ∃ m, k = m + 1 := ⟨k - 1, by omega⟩
    have hw : wrap64 ((i : Int) + 1) = ((i + 1 : Nat) : Int) := by rw [wrap_sm (by omega) (by omega)]; rfl
    simp only [heliastref12_Set.l0]
    rw [if_pos (by omega), g12_Has l i hl k (by omega), Option.bind_some, hw, seg_succ]
    by_cases h : (i : Int) ∈ l
    · rw [if_pos (by simpa using h), if_pos (by omega), ih (i + 1) _ k (by omega) (by simp; omega) (by omega), List.filter_cons_of_pos (by simpa using h)]; simp
    · rw [if_neg (by simpa using h), ih (i + 1) _ k (by omega) (by omega) (by omega), List.filter_cons_of_neg (by simpa using h)]
theorem g12_Set (g : List (List Int)) (l : List Int) (hg : g.length < 17592186044416) (hl : l.length < 4611686018427387904) (k : Nat) (hk : g.length + l.length + 2 ≤ k) : heliastref12_Set.f k g l = some (setL g l) := by
  unfold heliastref12_Set.f setL
  rw [show (0 : Int) = ((0 : Nat) : Int) from rfl, g12_Set_l0 g l hg hl g.length 0 [] k (by omega) (by simp) hk, pickL_seg]; rfl

/-! ### pure Gr3 -/
-- PURE needs heliast/heliastlaw12.GraphNatural
open Go.Proofs.He
theorem GraphNatural_l0 (g : List (List Int)) (hG : BackG g) (hg : g.length ≤ 24) (d : Nat) : ∀ (L : List Int) (k : Nat), (∀ x, x ∈ L ↔ (d : Int) ≤ x ∧ x < g.length) → L.length + d = g.length → d + 100 ≤ k →
    heliastlaw12_GraphNatural.l0 k g L ((d : Int) - 1) = some true := by
  induction d with
  | zero =>
    intro L k hL hlen hk
    obtain ⟨k, rfl⟩ : ∃ m, k = m + 1 := ⟨k - 1, by omega⟩
    have hset : setL g L = seg 0 g.length := by
      unfold setL
      rw [pickL_seg, List.filter_eq_self.2 (fun x hx => by have := mem_seg.1 hx; simp only [decide_eq_true_eq]; rw [hL]; omega)]
    have ho1 : ordL g L [] = seg 0 g.length := by
      unfold ordL
      rw [hset, seg_length]
      refine ordGo_natural hG (fun x y h1 h2 h3 h4 => ?_) g.length 0 g.length (by omega) (Nat.le_refl _)
      simp [lessN, rankAt, h1, h3]
    have hrk : ∀ x : Int, 0 ≤ x → x < g.length → rankAt (seg 0 g.length) x = x := by
      intro x h0 h1
      unfold rankAt
      rw [if_neg (by rw [seg_length]; omega)]
      unfold seg
      rw [List.getD_eq_getElem?_getD, List.getElem?_map, List.getElem?_range' (by omega)]
      simp [Int.toNat_of_nonneg h0]
    have ho2 : ordL g L (seg 0 g.length) = seg 0 g.length := by
      unfold ordL
      rw [hset, seg_length]
      refine ordGo_natural hG (fun x y h1 h2 h3 h4 => ?_) g.length 0 g.length (by omega) (Nat.le_refl _)
      unfold lessN
      rw [hrk x h1 h2, hrk y h3 h4]
      simp
    simp only [heliastlaw12_GraphNatural.l0]
    rw [if_neg (by omega), g12_Set g L (by omega) (by omega) k (by omega), Option.bind_some, hset, g12_known k (by omega), Option.bind_some, if_pos rfl, g12_Order g L _ hg, Option.bind_some, ho1, g12_Same _ _ (by rw [seg_length]; omega) k (by rw [seg_length]; omega), Option.bind_some,
      if_pos (by simp), g12_Order g L _ hg, Option.bind_some, ho2, g12_Same _ _ (by rw [seg_length]; omega) k (by rw [seg_length]; omega), Option.bind_some]
    simp
  | succ d ih =>
    intro L k hL hlen hk
    obtain ⟨k, rfl⟩ : ∃ m, k = m + 1 := ⟨k - 1, by omega⟩
    simp only [heliastlaw12_GraphNatural.l0]
    rw [if_pos (by omega), if_pos (by omega), show ((d + 1 : Nat) : Int) - 1 = (d : Int) by omega, wrap_sm (by omega) (by omega)]
    refine ih _ k (fun x => ?_) (by simp; omega) (by omega)
    rw [List.mem_append, List.mem_singleton, hL]; omega
theorem GraphNatural_pure : heliastlaw12_GraphNatural.Pure := by
  intro c hm hl hc
  refine ⟨2000, ?_⟩
  unfold heliastlaw12_GraphNatural.f
  rw [g12_Graph c 2000 (by omega), Option.bind_some]
  have hg := g12_graph_small c
  rw [wrap_sm (by omega) (by omega)]
  exact GraphNatural_l0 _ (g12_graph_good c) hg _ [] 2000 (fun x => ⟨fun h => (by cases h), fun h => (by omega)⟩) (by simp) (by omega)

end Go.Proofs.Ytbldllghkfgkeaa.S
