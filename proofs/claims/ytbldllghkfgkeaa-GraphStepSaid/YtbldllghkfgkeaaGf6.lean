-- Written by heprint.py (this session's, over the kit's print.py): not trusted, Lean checks it.
import Derived.Test.YtbldllghkfgkeaaGf0
import Derived.Test.YtbldllghkfgkeaaGf4
import Derived.Test.YtbldllghkfgkeaaGf5
namespace Go.Proofs.Ytbldllghkfgkeaa.S
open Go.RowKit Go.Proofs.YtbldllghkfgkeaaW.PrintWords Go.Proofs.YtbldllghkfgkeaaW.PrintLast Go.Proofs.YtbldllghkfgkeaaW.PrintMore
attribute [local go_sem] max2_int min2_int max_two min_two max_three min_three max_four min_four   -- for this text's walks alone
set_option linter.unusedVariables false
set_option linter.unusedSimpArgs false

/-! ### pure Gr8 -/
-- PURE needs heliast/heliastlaw12.GraphStep needs heliast/graph.Right needs heliast/heliastlaw12.Graph needs heliast/heliastlaw12.known needs heliast/heliastref12.Set needs heliast/heliastref12.Same
open Go.Proofs.He
theorem g12_PastS (g : List (List Int)) (n : Int) (hg : g.length ≤ 24) : graph_Past.f g n = some (pastL g n) := by
  unfold graph_Past.f pastL
  by_cases h0 : n < 0
  · rw [if_pos h0, if_pos h0]
  · by_cases h1 : n ≥ g.length
    · rw [if_neg h0, if_pos h1, if_neg h0, if_pos h1]
    · rw [if_neg h0, if_neg h1, if_neg h0, if_neg h1, if_pos (by omega), if_pos (by omega), g12_Reach g _ hg]; rfl
theorem pastL_lenS (g : List (List Int)) (n : Int) : (pastL g n).length ≤ g.length := by
  unfold pastL
  split
  · simp
  · split
    · simp
    · exact pickL_length g _
theorem row_smallS {g : List (List Int)} (hG : BackG g) (hg : g.length ≤ 24) {n : Nat} (hn : n < g.length) : (g.getD n []).length ≤ 24 := by
  have := (rises_nodup (hG.rise n hn)).length_le_of_subset (l₂ := seg 0 n) (fun x hx => mem_seg.2 (by have := hG.back n hn x hx; omega))
  rw [seg_length] at this; omega
theorem set_ofS {g : List (List Int)} {l : List Int} {p : Int → Bool} (h : ∀ x : Int, 0 ≤ x → x < g.length → (x ∈ l ↔ p x = true)) : setL g l = pickL g p := by
  refine rises_eq (pickL_rises g _) (pickL_rises g _) (fun x => ?_)
  rw [mem_setL, mem_pickL]
  constructor
  · rintro ⟨hv, hx⟩; exact ⟨hv, (h x hv.1 hv.2).1 hx⟩
  · rintro ⟨hv, hx⟩; exact ⟨hv, (h x hv.1 hv.2).2 hx⟩
def rightRow (n : Int) : Int → List Int → Bool
  | _, [] => true
  | last, x :: t => if x ≤ last then false else if x ≥ n then false else rightRow n x t
def rightFrom : Nat → List (List Int) → Bool
  | _, [] => true
  | i, l :: t => rightRow i (-1) l && rightFrom (i + 1) t
theorem g12_Right_l1 (g : List (List Int)) (i : Nat) (row : List Int) (hrow : row.length < 1000) (d : Nat) : ∀ (j : Nat) (last : Int) (k K : Nat), K = k + d + 1 → j + d = row.length →
    graph_Right.l1 K (i : Int) last g (g.length : Int) (i : Int) row (row.length : Int) (j : Int) = bif rightRow i last (row.drop j) then graph_Right.l0 k g (g.length : Int) (wrap64 ((i : Int) + 1)) else some false := by
  induction d with
  | zero =>
    intro j last k K hK hd
    subst hK
    simp only [graph_Right.l1]
    rw [if_neg (by omega), List.drop_eq_nil_of_le (by omega)]
    simp [rightRow]
  | succ d ih =>
    intro j last k K0 hK hd
    obtain ⟨K, rfl⟩ : ∃ m, K0 = m + 1 := ⟨K0 - 1, by omega⟩
    have hj : j < row.length := by omega
    have hw : wrap64 ((j : Int) + 1) = ((j + 1 : Nat) : Int) := by rw [wrap_sm (by omega) (by omega)]; rfl
    simp only [graph_Right.l1]
    rw [if_pos (by omega), if_pos (by omega), if_pos (by omega), rd_get hj, List.drop_eq_getElem_cons hj, hw, ih (j + 1) _ k K (by omega) (by omega), rightRow]
    by_cases h1 : row[j] ≤ last
    · rw [if_pos h1, if_pos h1]; simp
    · rw [if_neg h1, if_neg h1]
      by_cases h2 : row[j] ≥ (i : Int)
      · rw [if_pos h2, if_pos h2]; simp
      · rw [if_neg h2, if_neg h2]
theorem g12_Right_l0 (g : List (List Int)) (hg : g.length < 1000) (hrow : ∀ r ∈ g, r.length < 30) (d : Nat) : ∀ (i k : Nat), i + d = g.length → 40 * d + 1 ≤ k →
    graph_Right.l0 k g (g.length : Int) (i : Int) = some (rightFrom i (g.drop i)) := by
  induction d with
  | zero =>
    intro i k hd hk
    obtain ⟨k, rfl⟩ : ∃ m, k = m + 1 := ⟨k - 1, by omega⟩
    simp only [graph_Right.l0]
    rw [if_neg (by omega), List.drop_eq_nil_of_le (by omega)]; rfl
  | succ d ih =>
    intro i k hd hk
    have hi : i < g.length := by omega
    have hr := hrow _ (List.getElem_mem hi)
    have hge : g.getD i [] = g[i] := by simp [List.getD_eq_getElem?_getD, hi]
    have hw : wrap64 ((i : Int) + 1) = ((i + 1 : Nat) : Int) := by rw [wrap_sm (by omega) (by omega)]; rfl
    obtain ⟨q, rfl⟩ : ∃ m, k = (m + g[i].length + 1) + 1 := ⟨k - g[i].length - 2, by omega⟩
    have h1 := g12_Right_l1 g i g[i] (by omega) g[i].length 0 (-1) q _ rfl (by omega)
    simp only [graph_Right.l0]
    rw [if_pos (by omega), if_pos (by omega), if_pos (by omega), g12_row, hge, show (0 : Int) = ((0 : Nat) : Int) from rfl, h1, hw, ih (i + 1) q (by omega) (by omega), List.drop_eq_getElem_cons hi]
    simp only [rightFrom, List.drop_zero]
    cases rightRow (i : Int) (-1) g[i] <;> simp
theorem g12_Right (g : List (List Int)) (hg : g.length < 1000) (hrow : ∀ r ∈ g, r.length < 30) (k : Nat) (hk : 40 * g.length + 1 ≤ k) : graph_Right.f k g = some (rightFrom 0 g) := by
  unfold graph_Right.f
  rw [show (0 : Int) = ((0 : Nat) : Int) from rfl, g12_Right_l0 g hg hrow g.length 0 k (by omega) hk, List.drop_zero]
theorem rightRow_of (n : Int) : ∀ (l : List Int) (last : Int), l.Pairwise (· < ·) → (∀ x ∈ l, last < x ∧ x < n) → rightRow n last l = true
  | [], _, _, _ => rfl
  | x :: t, last, hp, hb => by
    have h := hb x List.mem_cons_self
    rw [List.pairwise_cons] at hp
    simp only [rightRow]
    rw [if_neg (by omega), if_neg (by omega)]
    exact rightRow_of n t x hp.2 (fun y hy => ⟨hp.1 y hy, (hb y (List.mem_cons_of_mem _ hy)).2⟩)
theorem rightFrom_append : ∀ (A : List (List Int)) (r : List Int) (i : Nat), rightFrom i (A ++ [r]) = (rightFrom i A && rightRow ((i + A.length : Nat) : Int) (-1) r)
  | [], r, i => by simp [rightFrom]
  | a :: A, r, i => by
    rw [List.cons_append]
    simp only [rightFrom]
    rw [rightFrom_append A r (i + 1), Bool.and_assoc, List.length_cons, show i + 1 + A.length = i + (A.length + 1) by omega]
theorem rightFrom_take (g : List (List Int)) (hG : BackG g) : ∀ (m : Nat), m ≤ g.length → rightFrom 0 (g.take m) = true
  | 0, _ => by simp [rightFrom]
  | m + 1, h => by
    have hge : g.getD m [] = g[m] := by simp [List.getD_eq_getElem?_getD, show m < g.length from h]
    rw [List.take_succ_eq_append_getElem h, rightFrom_append, rightFrom_take g hG m (by omega), Bool.true_and, List.length_take]
    refine rightRow_of _ _ _ ?_ (fun x hx => ?_)
    · rw [← hge]; exact hG.rise m h
    · rw [← hge] at hx; have := hG.back m h x hx; omega
/-- the graph whose last row is another -/
def lastG (g : List (List Int)) (m : Nat) (own : List Int) : List (List Int) := g.take m ++ [own]
theorem lastG_length {g : List (List Int)} {m : Nat} (h : g.length = m + 1) (own : List Int) : (lastG g m own).length = m + 1 := by
  unfold lastG; rw [List.length_append, List.length_take, List.length_singleton]; omega
theorem lastG_lo {g : List (List Int)} {m : Nat} (h : g.length = m + 1) (own : List Int) {n : Nat} (hn : n < m) : (lastG g m own).getD n [] = g.getD n [] := by
  unfold lastG
  rw [List.getD_eq_getElem?_getD, List.getD_eq_getElem?_getD, List.getElem?_append_left (by rw [List.length_take]; omega), List.getElem?_take_of_lt hn]
theorem lastG_hi {g : List (List Int)} {m : Nat} (h : g.length = m + 1) (own : List Int) : (lastG g m own).getD m [] = own := by
  unfold lastG
  rw [List.getD_eq_getElem?_getD, List.getElem?_append_right (by rw [List.length_take]; omega), List.length_take, show m - min m g.length = 0 by omega]; rfl
theorem lastG_good {g : List (List Int)} (hG : BackG g) {m : Nat} (h : g.length = m + 1) {own : List Int} (h1 : own.Pairwise (· < ·)) (h2 : ∀ x ∈ own, 0 ≤ x ∧ x < m) : BackG (lastG g m own) := by
  refine ⟨fun n hn => ?_, fun n hn x hx => ?_⟩
  · rw [lastG_length h] at hn
    by_cases hm : n = m
    · subst hm; rw [lastG_hi h]; exact h1
    · rw [lastG_lo h own (by omega)]; exact hG.rise n (by omega)
  · rw [lastG_length h] at hn
    by_cases hm : n = m
    · subst hm; rw [lastG_hi h] at hx; exact h2 x hx
    · rw [lastG_lo h own (by omega)] at hx; exact hG.back n (by omega) x hx
theorem Rch_lastG {g : List (List Int)} {m : Nat} (h : g.length = m + 1) (own : List Int) {l : List Int} (hl : ∀ x ∈ l, x < m) {x : Int} : Rch (lastG g m own) l x ↔ Rch g l x := by
  have hlen := lastG_length h own
  constructor
  · intro hr
    have : Rch g l x ∧ x < m := by
      induction hr with
      | base h1 h2 h3 => exact ⟨.base h1 h2 (by omega), hl _ h1⟩
      | step h1 h2 ih =>
        obtain ⟨a0, a1, a2, a3⟩ := h2
        rw [lastG_lo h own (by omega)] at a1
        exact ⟨.step ih.1 ⟨a0, a1, a2, a3⟩, by omega⟩
    exact this.1
  · intro hr
    have : Rch (lastG g m own) l x ∧ x < m := by
      induction hr with
      | base h1 h2 h3 => exact ⟨.base h1 h2 (by omega), hl _ h1⟩
      | step h1 h2 ih =>
        obtain ⟨a0, a1, a2, a3⟩ := h2
        rw [← lastG_lo h own (by omega)] at a1
        exact ⟨.step ih.1 ⟨a0, a1, a2, a3⟩, by omega⟩
    exact this.1
def stepOwn (g : List (List Int)) (m : Nat) (n : Int) (i d : Nat) : List Int := (seg i d).filter fun x => decide (x = n) || decide (x ∈ g.getD m [])
theorem GraphStep_set {g : List (List Int)} (hG : BackG g) {m : Nat} (h : g.length = m + 1) {n : Int} (h0 : 0 ≤ n) (h1 : n < m) :
    setL (lastG g m (stepOwn g m n 0 m)) (pastL g m ++ [n] ++ pastL g n) = pastL (lastG g m (stepOwn g m n 0 m)) m := by
  have hlen := lastG_length h (stepOwn g m n 0 m)
  have hb : ∀ x ∈ stepOwn g m n 0 m, 0 ≤ x ∧ x < m := fun x hx => by have := mem_seg.1 (List.mem_filter.1 hx).1; omega
  rw [pastL_eq (g := lastG g m (stepOwn g m n 0 m)) (n := (m : Int)) (by omega) (by omega), Int.toNat_natCast, lastG_hi h]
  refine set_ofS (fun x hx0 hx1 => ?_)
  rw [rchB_iff, Rch_lastG h _ (fun x hx => (hb x hx).2), List.mem_append, List.mem_append, List.mem_singleton, pastL_eq h0 (by omega), pastL_eq (by omega) (by omega), Int.toNat_natCast, mem_rchL, mem_rchL]
  have e : Rch g (stepOwn g m n 0 m) x ↔ Rch g (g.getD m [] ++ [n]) x := by
    constructor
    · intro hr
      refine hr.mono (fun y hy hy0 hy1 => .base ?_ hy0 hy1)
      have := (List.mem_filter.1 hy).2
      simp only [Bool.or_eq_true, decide_eq_true_eq] at this
      rw [List.mem_append, List.mem_singleton]; exact this.symm
    · intro hr
      refine hr.mono (fun y hy hy0 hy1 => .base ?_ hy0 hy1)
      rw [List.mem_append, List.mem_singleton] at hy
      refine List.mem_filter.2 ⟨mem_seg.2 ?_, by simp only [Bool.or_eq_true, decide_eq_true_eq]; exact hy.symm⟩
      rcases hy with hy | rfl
      · have := hG.back m (by omega) y hy; omega
      · omega
  have f : Rch g [n] x ↔ x = n ∨ Rch g (g.getD n.toNat []) x := by
    rw [Rch_first hG, List.mem_singleton]
    constructor
    · rintro (⟨h, _⟩ | ⟨y, hy, _, hr⟩)
      · exact .inl h
      · rw [List.mem_singleton] at hy; subst hy; exact .inr hr
    · rintro (rfl | hr)
      · exact .inl ⟨rfl, h0, by omega⟩
      · exact .inr ⟨n, List.mem_singleton.2 rfl, ⟨h0, by omega⟩, hr⟩
  rw [e, Rch_append, f, or_assoc]
theorem GraphStep_l0 (g : List (List Int)) (hG : BackG g) (hg : g.length ≤ 24) (m : Nat) (h : g.length = m + 1) (n : Int) (h0 : 0 ≤ n) (h1 : n < m) (x2 : Int) (d : Nat) : ∀ (i : Nat) (own : List Int) (k : Nat), i + d = m → own = stepOwn g m n 0 i → own.length ≤ i → d + 2000 ≤ k →
    heliastlaw12_GraphStep.l0 k x2 g (m : Int) n own (i : Int) = some true := by
  induction d with
  | zero =>
    intro i own k hd ho hl hk
    obtain ⟨k, rfl⟩ : ∃ m, k = m + 1 := ⟨k - 1, by omega⟩
    obtain rfl : i = m := by omega
    have hb : ∀ x ∈ own, 0 ≤ x ∧ x < i := fun x hx => by rw [ho] at hx; have := mem_seg.1 (List.mem_filter.1 hx).1; omega
    have hr : own.Pairwise (· < ·) := by rw [ho]; exact (seg_rises 0 i).filter _
    have hset := GraphStep_set hG h h0 h1
    rw [← ho] at hset
    have hlen := lastG_length h own
    have hlt : (g.take i).length = i := by rw [List.length_take]; omega
    have hpl := pastL_lenS g (i : Int)
    have hpn := pastL_lenS g n
    have hrows : ∀ r ∈ g.take i, r.length < 30 := by
      intro r hr
      obtain ⟨q, hq, rfl⟩ := List.getElem_of_mem (List.mem_of_mem_take hr)
      have := row_smallS hG hg hq
      rw [List.getD_eq_getElem?_getD, List.getElem?_eq_getElem hq, Option.getD_some] at this
      omega
    have hR : ∀ r : List Int, r.length < 30 → ∀ k, 1500 ≤ k → graph_Right.f k (g.take i ++ [r]) = some (rightRow i (-1) r) := by
      intro r hr k hk
      rw [g12_Right _ (by rw [List.length_append, List.length_singleton, hlt]; omega) (fun x hx => by rcases List.mem_append.1 hx with hx | hx; exact hrows x hx; rw [List.mem_singleton.1 hx]; exact hr) k (by rw [List.length_append, List.length_singleton, hlt]; omega),
        rightFrom_append, rightFrom_take g hG i (by omega), Bool.true_and, hlt, Nat.zero_add]
    have hps : (pastL (lastG g i own) (i : Int)).length ≤ 24 := by have := pastL_lenS (lastG g i own) (i : Int); omega
    simp only [heliastlaw12_GraphStep.l0]
    rw [if_neg (by omega), if_pos (by omega), if_pos (by omega), Int.toNat_natCast]
    simp only [Option.bind_some, List.nil_append, List.length_nil, Nat.zero_add]
    rw [if_pos (by omega), if_pos (by omega)]
    rw [g12_PastS g _ hg, Option.bind_some, if_pos (by omega), if_pos (by omega), g12_PastS g _ hg, Option.bind_some, if_pos (by rw [List.length_append, List.length_singleton]; omega), if_pos (by omega), if_pos (by omega), if_pos (by omega), if_pos (by omega),
      g12_known k (by omega), Option.bind_some, if_pos rfl, hR own (by omega) k (by omega), Option.bind_some, rightRow_of _ _ _ hr (fun x hx => by have := hb x hx; omega), if_pos rfl]
    rw [show g.take i ++ [own] = lastG g i own from rfl, g12_PastS _ _ (by omega), Option.bind_some, g12_Set _ _ (by omega) (by simp; omega) k (by simp; omega), Option.bind_some, hset, g12_Same _ _ (by omega) k (by omega), Option.bind_some, if_pos (by simp),
      hR [x2] (by simp) k (by omega), Option.bind_some, hR [n, n] (by simp) k (by omega), Option.bind_some]
    have e2 : rightRow (i : Int) (-1) [n, n] = false := by simp only [rightRow]; rw [if_neg (by omega), if_neg (by omega), if_pos (by omega)]
    have e3 : rightRow (i : Int) (-1) [x2] = (decide (x2 ≥ 0) && decide (x2 < (i : Int))) := by
      simp only [rightRow]
      by_cases c : x2 ≥ 0
      · rw [if_neg (by omega), decide_eq_true c]
        by_cases c2 : x2 < (i : Int)
        · rw [if_neg (by omega), decide_eq_true c2]; rfl
        · rw [if_pos (by omega), decide_eq_false c2]; rfl
      · rw [if_pos (by omega), decide_eq_false c]; rfl
    rw [e2, e3]
    by_cases c : x2 ≥ 0
    · rw [if_pos c, decide_eq_true c]; simp
    · rw [if_neg c, decide_eq_false c]; simp
  | succ d ih =>
    intro i own k hd ho hl hk
    obtain ⟨k, rfl⟩ : ∃ m, k = m + 1 := ⟨k - 1, by omega⟩
    have hw : wrap64 ((i : Int) + 1) = ((i + 1 : Nat) : Int) := by rw [wrap_sm (by omega) (by omega)]; rfl
    have hrs := row_smallS hG hg (n := m) (by omega)
    have hseg : seg 0 (i + 1) = seg 0 i ++ [(i : Int)] := by simp [seg, List.range'_concat]
    have ho2 : stepOwn g m n 0 (i + 1) = stepOwn g m n 0 i ++ (if (decide ((i : Int) = n) || decide ((i : Int) ∈ g.getD m [])) = true then [(i : Int)] else []) := by
      unfold stepOwn; rw [hseg, List.filter_append, List.filter_cons, List.filter_nil]
    simp only [heliastlaw12_GraphStep.l0]
    rw [if_pos (by omega), hw]
    by_cases c : (i : Int) = n
    · rw [if_pos c, if_pos (by omega)]
      refine ih (i + 1) _ k (by omega) ?_ (by rw [List.length_append, List.length_singleton]; omega) (by omega)
      rw [ho2, ho, if_pos (by rw [decide_eq_true c]; rfl)]
    · rw [if_neg c, if_pos (by omega), if_pos (by omega), g12_row, g12_Has _ _ (by omega) k (by omega), Option.bind_some]
      by_cases c2 : (i : Int) ∈ g.getD m []
      · rw [if_pos (by simpa using c2), if_pos (by omega)]
        refine ih (i + 1) _ k (by omega) ?_ (by rw [List.length_append, List.length_singleton]; omega) (by omega)
        rw [ho2, ho, if_pos (by rw [decide_eq_true c2, Bool.or_true])]
      · rw [if_neg (by simpa using c2)]
        refine ih (i + 1) _ k (by omega) ?_ (by omega) (by omega)
        rw [ho2, ho, if_neg (by rw [decide_eq_false c2, decide_eq_false c]; simp), List.append_nil]
theorem GraphStep_pure : heliastlaw12_GraphStep.Pure := by
  intro c a1 a2 hm hl hc h1 h2
  refine ⟨4000, ?_⟩
  unfold heliastlaw12_GraphStep.f
  have hg := g12_graph_small c
  rw [g12_Graph c 4000 (by omega), Option.bind_some]
  by_cases hlt : ((g12_graph c).length : Int) < 2
  · rw [if_pos hlt, g12_known 4000 (by omega)]; rfl
  · obtain ⟨m, h⟩ : ∃ m, (g12_graph c).length = m + 1 := ⟨(g12_graph c).length - 1, by omega⟩
    have ha := u8_bd (c := [a1]) (by simpa using h1) a1 (by simp)
    have hw1 : wrap64 (((g12_graph c).length : Int) - 1) = (m : Int) := by rw [wrap_sm (by omega) (by omega)]; omega
    have hw2 : wrap64 a1 = a1 := wrap_sm (by omega) (by omega)
    rw [if_neg hlt, hw1, hw2, if_neg (by omega)]
    exact GraphStep_l0 _ (g12_graph_good c) hg m h _ (Int.tmod_nonneg _ ha.1) (Int.tmod_lt_of_pos _ (by omega)) a2 m 0 [] 4000 (by omega) (by simp [stepOwn, seg_zero]) (by simp) (by omega)

end Go.Proofs.Ytbldllghkfgkeaa.S
