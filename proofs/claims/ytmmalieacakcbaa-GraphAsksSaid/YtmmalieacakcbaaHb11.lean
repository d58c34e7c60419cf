-- Written by heprint.py (this session's, over the kit's print.py): not trusted, Lean checks it.
import Derived.Test.YtmmalieacakcbaaHb0
import Derived.Test.YtmmalieacakcbaaHb1
import Derived.Test.YtmmalieacakcbaaHb2
import Derived.Test.YtmmalieacakcbaaHb3
import Derived.Test.YtmmalieacakcbaaHb4
import Derived.Test.YtmmalieacakcbaaHb5
import Derived.Test.YtmmalieacakcbaaHb6
import Derived.Test.YtmmalieacakcbaaHb7
import Derived.Test.YtmmalieacakcbaaHb8
import Derived.Test.YtmmalieacakcbaaHb9
import Derived.Test.YtmmalieacakcbaaHb10
namespace Go.Proofs.Ytmmalieacakcbaa.S
open Go.RowKit Go.Proofs.YtmmalieacakcbaaW.PrintWords Go.Proofs.YtmmalieacakcbaaW.PrintLast Go.Proofs.YtmmalieacakcbaaW.PrintMore
attribute [local go_sem] max2_int min2_int max_two min_two max_three min_three max_four min_four   -- for this text's walks alone
set_option linter.unusedVariables false
set_option linter.unusedSimpArgs false

/-! ### pure GrA -/
-- PURE needs heliast/heliastlaw12.GraphAsks needs heliast/heliastlaw12.asks needs heliast/heliastlaw12.heavy needs heliast/heliastlaw12.Some needs heliast/heliastlaw12.Graph needs heliast/heliastlaw12.known needs heliast/heliastref12.Has needs heliast/heliastref12.Set needs heliast/heliastref12.Same needs heliast/heliastref12.Reach needs heliast/heliastref12.Past needs heliast/heliastref12.Heads needs heliast/heliastref12.ready needs heliast/heliastref12.rankOf needs heliast/heliastref12.Order needs heliast/heliastref12.Long needs heliast/heliastref12.Right needs heliast/graph.Right needs heliast/graph.Past needs heliast/graph.Heads needs heliast/graph.Long needs heliast/graph.Order needs heliast/graph.Reach
open Go.Proofs.He
def Marks (g : List (List Int)) (B : List Bool) (S : List Int) : Prop := B.length = g.length ∧ ∀ x : Nat, x < g.length → B.getD x false = decide ((x : Int) ∈ S)
theorem Marks.set {g : List (List Int)} {B : List Bool} {S : List Int} (h : Marks g B S) {x : Int} (h0 : 0 ≤ x) (h1 : x < g.length) : Marks g (B.set x.toNat true) (S ++ [x]) := by
  refine ⟨by rw [List.length_set]; exact h.1, fun y hy => ?_⟩
  have hy2 := h.2 y hy
  rw [List.getD_eq_getElem?_getD] at hy2 ⊢
  rw [List.getElem?_set]
  by_cases e : x.toNat = y
  · rw [if_pos e, if_pos (by rw [h.1]; omega)]
    simp; exact .inr (by omega)
  · rw [if_neg e, hy2]
    refine decide_eq_decide.2 ?_
    rw [List.mem_append, List.mem_singleton]
    exact ⟨.inl, fun h => h.resolve_right (by omega)⟩
theorem Marks.at {g : List (List Int)} {B : List Bool} {S : List Int} (h : Marks g B S) {x : Nat} (h1 : x < g.length) : rdOf false B (x : Int) = decide ((x : Int) ∈ S) := by
  unfold rdOf; rw [Int.toNat_natCast]; exact h.2 x h1
theorem gA_Reach_l0 (g : List (List Int)) (hg : g.length ≤ 5864062014805) (l : List Int) (hl : l.length < 4611686018427387904) (d : Nat) : ∀ (i : Nat) (B : List Bool) (S : List Int), i + d = l.length → Marks g B S →
    ∃ B', Marks g B' (S ++ (l.drop i).filter (okN g)) ∧ ∀ k, heliastref12_Reach.l0 (k + d + 1) g l B (i : Int) = heliastref12_Reach.l1 k g B' ((g.length : Int) - 1) := by
  induction d with
  | zero =>
    intro i B S hd hB
    refine ⟨B, by rw [List.drop_eq_nil_of_le (by omega)]; simpa using hB, fun k => ?_⟩
    rw [show k + 0 + 1 = k + 1 from rfl]
    simp only [heliastref12_Reach.l0]
    rw [if_neg (by omega), wrap_sm (by omega) (by omega)]
  | succ d ih =>
    intro i B S hd hB
    have hi : i < l.length := by omega
    have hw : wrap64 ((i : Int) + 1) = ((i + 1 : Nat) : Int) := by rw [wrap_sm (by omega) (by omega)]; rfl
    have hBl := hB.1
    rw [List.drop_eq_getElem_cons hi]
    by_cases h0 : l[i] ≥ 0
    · by_cases h1 : l[i] < (g.length : Int)
      · rw [List.filter_cons_of_pos (okN_iff.2 ⟨h0, h1⟩)]
        obtain ⟨B', h2, h3⟩ := ih (i + 1) _ _ (by omega) (hB.set h0 h1)
        refine ⟨B', by simpa using h2, fun k => ?_⟩
        rw [show k + (d + 1) + 1 = (k + d + 1) + 1 by omega]
        simp only [heliastref12_Reach.l0]
        rw [if_pos (by omega), if_pos (by omega), rd_get hi, hw, if_pos h0, if_pos h1, if_pos h0, if_pos (by omega)]
        exact h3 k
      · rw [List.filter_cons_of_neg (fun h => h1 (okN_iff.1 h).2)]
        obtain ⟨B', h2, h3⟩ := ih (i + 1) _ _ (by omega) hB
        refine ⟨B', h2, fun k => ?_⟩
        rw [show k + (d + 1) + 1 = (k + d + 1) + 1 by omega]
        simp only [heliastref12_Reach.l0]
        rw [if_pos (by omega), if_pos (by omega), rd_get hi, hw, if_pos h0, if_neg h1]
        exact h3 k
    · rw [List.filter_cons_of_neg (fun h => h0 (okN_iff.1 h).1)]
      obtain ⟨B', h2, h3⟩ := ih (i + 1) _ _ (by omega) hB
      refine ⟨B', h2, fun k => ?_⟩
      rw [show k + (d + 1) + 1 = (k + d + 1) + 1 by omega]
      simp only [heliastref12_Reach.l0]
      rw [if_pos (by omega), if_pos (by omega), rd_get hi, hw, if_neg h0]
      exact h3 k
theorem gA_Reach_l2 (g : List (List Int)) (hg : g.length ≤ 5864062014805) (n : Nat) (hn : n < g.length) (hr : (g.getD n []).length ≤ 17592186044416) (d : Nat) : ∀ (j : Nat) (B : List Bool) (S : List Int), j + d = (g.getD n []).length → Marks g B S → (n : Int) ∈ S →
    ∃ B', Marks g B' (S ++ ((g.getD n []).drop j).filter (fun b => decide (0 ≤ b) && decide (b < (n : Int)))) ∧ ∀ k, heliastref12_Reach.l2 (k + 2 * d + 2) g B (n : Int) (j : Int) = heliastref12_Reach.l1 k g B' ((n : Int) - 1) := by
  induction d with
  | zero =>
    intro j B S hd hB hnS
    refine ⟨B, by rw [List.drop_eq_nil_of_le (by omega)]; simpa using hB, fun k => ?_⟩
    rw [show k + 2 * 0 + 2 = k + 1 + 1 from rfl]
    simp only [heliastref12_Reach.l2, heliastref12_Reach.j3]
    rw [if_pos (by omega), if_pos (by omega), g12_row, if_neg (by omega), if_neg (by simp), wrap_sm (by omega) (by omega)]
  | succ d ih =>
    intro j B S hd hB hnS
    have hj : j < (g.getD n []).length := by omega
    have hw : wrap64 ((j : Int) + 1) = ((j + 1 : Nat) : Int) := by rw [wrap_sm (by omega) (by omega)]; rfl
    have hBl := hB.1
    rw [List.drop_eq_getElem_cons hj]
    have head : ∀ (k : Nat) (x : Option (List Int)), (if (g.getD n [])[j] ≥ 0 then (if (g.getD n [])[j] < (n : Int) then (if 0 ≤ (g.getD n [])[j] then (if (g.getD n [])[j] < (B.length : Int) then (heliastref12_Reach.l2 (k + 2 * d + 2) g (B.set ((g.getD n [])[j]).toNat true) (n : Int) ((j + 1 : Nat) : Int)) else none) else none) else (heliastref12_Reach.l2 (k + 2 * d + 2) g B (n : Int) ((j + 1 : Nat) : Int))) else (heliastref12_Reach.l2 (k + 2 * d + 2) g B (n : Int) ((j + 1 : Nat) : Int))) = x → heliastref12_Reach.l2 (k + 2 * (d + 1) + 2) g B (n : Int) (j : Int) = x := by
      intro k x hx
      obtain ⟨K, hK⟩ : ∃ K, K = k + 2 * d + 2 := ⟨_, rfl⟩
      rw [← hK] at hx
      rw [show k + 2 * (d + 1) + 2 = K + 1 + 1 by omega]
      simp only [heliastref12_Reach.l2, heliastref12_Reach.j3]
      rw [if_pos (by omega), if_pos (by omega), g12_row, if_pos (by omega), if_pos (by omega), hB.at hn, decide_eq_true hnS, if_pos rfl, if_pos (by omega), if_pos (by omega), if_pos (by omega), if_pos (by omega), rd_get hj, hw]
      exact hx
    by_cases h0 : (g.getD n [])[j] ≥ 0
    · by_cases h1 : (g.getD n [])[j] < (n : Int)
      · rw [List.filter_cons_of_pos (by rw [Bool.and_eq_true, decide_eq_true_eq, decide_eq_true_eq]; omega)]
        obtain ⟨B', h2, h3⟩ := ih (j + 1) _ _ (by omega) (hB.set h0 (by omega)) (List.mem_append_left _ hnS)
        refine ⟨B', by simpa using h2, fun k => head k _ ?_⟩
        rw [if_pos h0, if_pos h1, if_pos h0, if_pos (by omega)]
        exact h3 k
      · rw [List.filter_cons_of_neg (by rw [Bool.and_eq_true, decide_eq_true_eq, decide_eq_true_eq]; omega)]
        obtain ⟨B', h2, h3⟩ := ih (j + 1) _ _ (by omega) hB hnS
        refine ⟨B', h2, fun k => head k _ ?_⟩
        rw [if_pos h0, if_neg h1]
        exact h3 k
    · rw [List.filter_cons_of_neg (by rw [Bool.and_eq_true, decide_eq_true_eq, decide_eq_true_eq]; omega)]
      obtain ⟨B', h2, h3⟩ := ih (j + 1) _ _ (by omega) hB hnS
      refine ⟨B', h2, fun k => head k _ ?_⟩
      rw [if_neg h0]
      exact h3 k
theorem gA_Reach_skip (g : List (List Int)) (n : Nat) (hn : n < g.length) (hg : g.length ≤ 5864062014805) (B : List Bool) (S : List Int) (k : Nat) (hB : Marks g B S) (hnS : (n : Int) ∉ S) : heliastref12_Reach.l2 (k + 2) g B (n : Int) 0 = heliastref12_Reach.l1 k g B ((n : Int) - 1) := by
  have hBl := hB.1
  rw [show k + 2 = k + 1 + 1 from rfl]
  simp only [heliastref12_Reach.l2, heliastref12_Reach.j3]
  rw [if_pos (by omega), if_pos (by omega), hB.at hn, decide_eq_false hnS, if_pos (show (n : Int) < (B.length : Int) by omega)]
  simp only [Bool.false_eq_true, if_false]
  rw [wrap_sm (by omega) (by omega)]
  split <;> rfl
theorem gA_Reach_l3 (g : List (List Int)) (hg : g.length ≤ 5864062014805) (B : List Bool) (S : List Int) (hB : Marks g B S) (d : Nat) : ∀ (i : Nat) (out : List Int) (k : Nat), i + d = g.length → out.length ≤ i → d + 1 ≤ k →
    heliastref12_Reach.l3 k g B out (i : Int) = some (out ++ (seg i d).filter (fun x => decide (x ∈ S))) := by
  have hBl := hB.1
  induction d with
  | zero =>
    intro i out k hd ho hk
    obtain ⟨k, rfl⟩ : ∃ m, k = m + 1 := ⟨k - 1, by omega⟩
    simp only [heliastref12_Reach.l3]
    rw [if_neg (by omega), seg_zero]; simp
  | succ d ih =>
    intro i out k hd ho hk
    obtain ⟨k, rfl⟩ : ∃ m, k = m + 1 := ⟨k - 1, by omega⟩
    have hw : wrap64 ((i : Int) + 1) = ((i + 1 : Nat) : Int) := by rw [wrap_sm (by omega) (by omega)]; rfl
    simp only [heliastref12_Reach.l3]
    rw [if_pos (by omega), if_pos (by omega), if_pos (by omega), hB.at (by omega), hw, seg_succ]
    by_cases h : (i : Int) ∈ S
    · rw [if_pos (by simpa using h), if_pos (by omega), ih (i + 1) _ k (by omega) (by simp; omega) (by omega), List.filter_cons_of_pos (by simpa using h)]; simp
    · rw [if_neg (by simpa using h), ih (i + 1) _ k (by omega) (by omega) (by omega), List.filter_cons_of_neg (by simpa using h)]
theorem gA_Reach_l1 (g : List (List Int)) (hg : g.length ≤ 5864062014805) (hr : ∀ n, (g.getD n []).length ≤ 17592186044416) : ∀ (n : Nat) (B : List Bool) (S : List Int), n ≤ g.length → Marks g B S → ∃ k0, ∀ k, k0 ≤ k →
    heliastref12_Reach.l1 k g B ((n : Int) - 1) = some (pickL g (fun x => decide (x ∈ down g n S)))
  | 0, B, S, hn, hB => ⟨g.length + 2, fun k hk => by
    obtain ⟨k, rfl⟩ : ∃ m, k = m + 1 := ⟨k - 1, by omega⟩
    simp only [heliastref12_Reach.l1]
    rw [if_neg (by omega), show (0 : Int) = ((0 : Nat) : Int) from rfl, gA_Reach_l3 g hg B S hB g.length 0 [] k (by omega) (by simp) (by omega), pickL_seg]
    rfl⟩
  | n + 1, B, S, hn, hB => by
    have hrn := hr n
    have e : ((n + 1 : Nat) : Int) - 1 = (n : Int) := by omega
    rw [e]
    by_cases hS : (n : Int) ∈ S
    · obtain ⟨B', h2, h3⟩ := gA_Reach_l2 g hg n (by omega) hrn (g.getD n []).length 0 B S (by omega) hB hS
      obtain ⟨k0, hk0⟩ := gA_Reach_l1 g hg hr n B' _ (by omega) h2
      refine ⟨k0 + 2 * (g.getD n []).length + 3, fun k hk => ?_⟩
      obtain ⟨q, rfl⟩ : ∃ q, k = (q + 2 * (g.getD n []).length + 2) + 1 := ⟨k - 2 * (g.getD n []).length - 3, by omega⟩
      simp only [heliastref12_Reach.l1]
      rw [if_pos (by omega), show (0 : Int) = ((0 : Nat) : Int) from rfl, h3, hk0 q (by omega)]
      simp only [down, if_pos hS, List.drop_zero]
    · obtain ⟨k0, hk0⟩ := gA_Reach_l1 g hg hr n B S (by omega) hB
      refine ⟨k0 + 3, fun k hk => ?_⟩
      obtain ⟨q, rfl⟩ : ∃ q, k = (q + 2) + 1 := ⟨k - 3, by omega⟩
      simp only [heliastref12_Reach.l1]
      rw [if_pos (by omega), gA_Reach_skip g n (by omega) hg B S q hB hS, hk0 q (by omega)]
      simp only [down, if_neg hS]
theorem gA_Reach (g : List (List Int)) (l : List Int) (hg : g.length ≤ 5864062014805) (hr : ∀ n, (g.getD n []).length ≤ 17592186044416) (hl : l.length < 4611686018427387904) : ∃ k0, ∀ k, k0 ≤ k → heliastref12_Reach.f k g l = some (rchL g l) := by
  have h0 : Marks g (List.replicate ((g.length : Int)).toNat false) [] := ⟨by simp, fun x hx => by
    rw [List.getD_eq_getElem?_getD, List.getElem?_replicate]; split <;> simp⟩
  obtain ⟨B', h2, h3⟩ := gA_Reach_l0 g hg l hl l.length 0 _ [] (by omega) h0
  obtain ⟨k0, hk0⟩ := gA_Reach_l1 g hg hr g.length B' _ (Nat.le_refl _) h2
  refine ⟨k0 + l.length + 1, fun k hk => ?_⟩
  unfold heliastref12_Reach.f
  obtain ⟨q, rfl⟩ : ∃ q, k = q + l.length + 1 := ⟨k - l.length - 1, by omega⟩
  rw [if_pos (by omega), if_pos (by omega), show (0 : Int) = ((0 : Nat) : Int) from rfl, h3, hk0 q (by omega)]
  rfl
theorem gA_Past (g : List (List Int)) (n : Int) (hg : g.length ≤ 5864062014805) (hr : ∀ n, (g.getD n []).length ≤ 17592186044416) : ∃ k0, ∀ k, k0 ≤ k → heliastref12_Past.f k g n = some (pastL g n) := by
  unfold heliastref12_Past.f pastL
  by_cases h0 : n < 0
  · exact ⟨0, fun k _ => by rw [if_pos h0, if_pos h0]⟩
  · by_cases h1 : n ≥ g.length
    · exact ⟨0, fun k _ => by rw [if_neg h0, if_pos h1, if_neg h0, if_pos h1]⟩
    · have := hr n.toNat
      obtain ⟨k0, hk0⟩ := gA_Reach g (g.getD n.toNat []) hg hr (by omega)
      refine ⟨k0, fun k hk => ?_⟩
      rw [if_neg h0, if_neg h1, if_neg h0, if_neg h1, if_pos (by omega), if_pos (by omega)]
      show (heliastref12_Reach.f k g (g.getD n.toNat [])).bind _ = _
      rw [hk0 k hk]; rfl
theorem gA_Heads_l1 (g : List (List Int)) (hg : g.length ≤ 5864062014805) (hr : ∀ n, (g.getD n []).length ≤ 17592186044416) (S : List Int) (hS : ∀ x ∈ S, 0 ≤ x ∧ x < g.length) (hSl : S.length ≤ 5864062014805) (out : List Int) (ho : out.length ≤ 5864062014805) (i : Nat) (hi : i < S.length) (d : Nat) : ∀ (j : Nat) (flag : Bool) (k K : Nat), K = k + d + 1 → j + d = S.length → 17592186044417 ≤ k →
    heliastref12_Heads.l1 K g S out (i : Int) flag (j : Int) = heliastref12_Heads.l0 k g S (bif flag && !((S.drop j).any fun n => decide (S[i] ∈ g.getD n.toNat [])) then out ++ [S[i]] else out) ((i + 1 : Nat) : Int) := by
  have hwi : wrap64 ((i : Int) + 1) = ((i + 1 : Nat) : Int) := by rw [wrap_sm (by omega) (by omega)]; rfl
  induction d with
  | zero =>
    intro j flag k K hK hd hk
    subst hK
    rw [List.drop_eq_nil_of_le (by omega)]
    simp only [heliastref12_Heads.l1]
    rw [if_neg (by omega), hwi, rd_get hi]
    cases flag with
    | true => rw [if_pos rfl, if_pos (by omega), if_pos (by omega), if_pos (by omega)]; rfl
    | false => rw [if_neg (by simp)]; rfl
  | succ d ih =>
    intro j flag k K0 hK hd hk
    obtain ⟨K, rfl⟩ : ∃ m, K0 = m + 1 := ⟨K0 - 1, by omega⟩
    have hj : j < S.length := by omega
    have hw : wrap64 ((j : Int) + 1) = ((j + 1 : Nat) : Int) := by rw [wrap_sm (by omega) (by omega)]; rfl
    have hvj := hS _ (List.getElem_mem hj)
    have hrow := hr S[j].toNat
    have hrr : rd_L1 g S[j] = g.getD S[j].toNat [] := rfl
    rw [List.drop_eq_getElem_cons hj, List.any_cons]
    simp only [heliastref12_Heads.l1]
    rw [if_pos (by omega), hw]
    cases flag with
    | true =>
      rw [if_pos rfl, if_pos (by omega), rd_get hj, rd_get hi, if_pos hvj.1, if_pos hvj.2, if_pos (by omega), if_pos (by omega), hrr, g12_Has _ _ (by omega) K (by omega), Option.bind_some, ih (j + 1) _ k K (by omega) (by omega) hk]
      rw [Bool.not_or, Bool.true_and]
    | false =>
      rw [if_neg (by simp), ih (j + 1) false k K (by omega) (by omega) hk]; rfl
theorem gA_Heads_l0 (g : List (List Int)) (hg : g.length ≤ 5864062014805) (hr : ∀ n, (g.getD n []).length ≤ 17592186044416) (S : List Int) (hS : ∀ x ∈ S, 0 ≤ x ∧ x < g.length) (hSl : S.length ≤ 5864062014805) (d : Nat) : ∃ k0, ∀ (i : Nat) (out : List Int) (k : Nat), i + d = S.length → out.length ≤ i → k0 ≤ k →
    heliastref12_Heads.l0 k g S out (i : Int) = some (out ++ (S.drop i).filter fun x => !(S.any fun n => decide (x ∈ g.getD n.toNat []))) := by
  induction d with
  | zero =>
    refine ⟨1, fun i out k hd ho hk => ?_⟩
    obtain ⟨k, rfl⟩ : ∃ m, k = m + 1 := ⟨k - 1, by omega⟩
    simp only [heliastref12_Heads.l0]
    rw [if_neg (by omega), List.drop_eq_nil_of_le (by omega)]; simp
  | succ d ih =>
    obtain ⟨k0, ih⟩ := ih
    refine ⟨k0 + S.length + 17592186044500, fun i out k hd ho hk => ?_⟩
    obtain ⟨q, rfl⟩ : ∃ q, k = (q + S.length + 1) + 1 := ⟨k - S.length - 2, by omega⟩
    have hi : i < S.length := by omega
    simp only [heliastref12_Heads.l0]
    rw [if_pos (by omega), show (0 : Int) = ((0 : Nat) : Int) from rfl, gA_Heads_l1 g hg hr S hS hSl out (by omega) i hi S.length 0 true q _ rfl (by omega) (by omega), List.drop_zero, Bool.true_and, List.drop_eq_getElem_cons hi]
    cases hc : S.any fun n => decide (S[i] ∈ g.getD n.toNat []) with
    | true =>
      rw [List.filter_cons_of_neg (by rw [hc]; simp), Bool.not_true, cond_false, ih (i + 1) out q (by omega) (by omega) (by omega)]
    | false =>
      rw [List.filter_cons_of_pos (by rw [hc]; rfl), Bool.not_false, cond_true, ih (i + 1) _ q (by omega) (by simp; omega) (by omega)]; simp
theorem gA_Heads (g : List (List Int)) (l : List Int) (hg : g.length ≤ 5864062014805) (hr : ∀ n, (g.getD n []).length ≤ 17592186044416) (hl : l.length < 4611686018427387904) : ∃ k0, ∀ k, k0 ≤ k → heliastref12_Heads.f k g l = some (headL g l) := by
  have hlen : (setL g l).length ≤ 5864062014805 := Nat.le_trans (pickL_length _ _) hg
  obtain ⟨k0, hk0⟩ := gA_Heads_l0 g hg hr (setL g l) (fun x hx => (mem_setL.1 hx).1) hlen (setL g l).length
  refine ⟨k0 + g.length + l.length + 2, fun k hk => ?_⟩
  unfold heliastref12_Heads.f
  rw [g12_Set g l (by omega) hl k (by omega), Option.bind_some, show (0 : Int) = ((0 : Nat) : Int) from rfl, hk0 0 [] k (by omega) (by simp) (by omega)]
  rfl
/-! Right -/
def rightRowA (n : Int) : Int → List Int → Bool
  | _, [] => true
  | last, x :: t => if x ≤ last then false else if x ≥ n then false else rightRowA n x t
def rightFromA : Nat → List (List Int) → Bool
  | _, [] => true
  | i, l :: t => rightRowA i (-1) l && rightFromA (i + 1) t
theorem gA_Right_l1 (g : List (List Int)) (i : Nat) (row : List Int) (hrow : row.length ≤ 17592186044416) (d : Nat) : ∀ (j : Nat) (last : Int) (k K : Nat), K = k + d + 1 → j + d = row.length →
    graph_Right.l1 K (i : Int) last g (g.length : Int) (i : Int) row (row.length : Int) (j : Int) = bif rightRowA i last (row.drop j) then graph_Right.l0 k g (g.length : Int) (wrap64 ((i : Int) + 1)) else some false := by
  induction d with
  | zero =>
    intro j last k K hK hd
    subst hK
    simp only [graph_Right.l1]
    rw [if_neg (by omega), List.drop_eq_nil_of_le (by omega)]
    simp [rightRowA]
  | succ d ih =>
    intro j last k K0 hK hd
    obtain ⟨K, rfl⟩ : ∃ m, K0 = m + 1 := ⟨K0 - 1, by omega⟩
    have hj : j < row.length := by omega
    have hw : wrap64 ((j : Int) + 1) = ((j + 1 : Nat) : Int) := by rw [wrap_sm (by omega) (by omega)]; rfl
    simp only [graph_Right.l1]
    rw [if_pos (by omega), if_pos (by omega), if_pos (by omega), rd_get hj, List.drop_eq_getElem_cons hj, hw, ih (j + 1) _ k K (by omega) (by omega), rightRowA]
    by_cases h1 : row[j] ≤ last
    · rw [if_pos h1, if_pos h1]; simp
    · rw [if_neg h1, if_neg h1]
      by_cases h2 : row[j] ≥ (i : Int)
      · rw [if_pos h2, if_pos h2]; simp
      · rw [if_neg h2, if_neg h2]
theorem gA_Right_l0 (g : List (List Int)) (hg : g.length ≤ 5864062014805) (hr : ∀ n, (g.getD n []).length ≤ 17592186044416) (d : Nat) : ∃ k0, ∀ (i k : Nat), i + d = g.length → k0 ≤ k →
    graph_Right.l0 k g (g.length : Int) (i : Int) = some (rightFromA i (g.drop i)) := by
  induction d with
  | zero =>
    refine ⟨1, fun i k hd hk => ?_⟩
    obtain ⟨k, rfl⟩ : ∃ m, k = m + 1 := ⟨k - 1, by omega⟩
    simp only [graph_Right.l0]
    rw [if_neg (by omega), List.drop_eq_nil_of_le (by omega)]; rfl
  | succ d ih =>
    obtain ⟨k0, ih⟩ := ih
    refine ⟨k0 + 17592186044500, fun i k hd hk => ?_⟩
    have hi : i < g.length := by omega
    have hr := hr i
    have hge : g.getD i [] = g[i] := by simp [List.getD_eq_getElem?_getD, hi]
    rw [hge] at hr
    have hw : wrap64 ((i : Int) + 1) = ((i + 1 : Nat) : Int) := by rw [wrap_sm (by omega) (by omega)]; rfl
    obtain ⟨q, rfl⟩ : ∃ m, k = (m + g[i].length + 1) + 1 := ⟨k - g[i].length - 2, by omega⟩
    have h1 := gA_Right_l1 g i g[i] (by omega) g[i].length 0 (-1) q _ rfl (by omega)
    simp only [graph_Right.l0]
    rw [if_pos (by omega), if_pos (by omega), if_pos (by omega), g12_row, hge, show (0 : Int) = ((0 : Nat) : Int) from rfl, h1, hw, ih (i + 1) q (by omega) (by omega), List.drop_eq_getElem_cons hi]
    simp only [rightFromA, List.drop_zero]
    cases rightRowA (i : Int) (-1) g[i] <;> simp
theorem gA_Right (g : List (List Int)) (hg : g.length ≤ 5864062014805) (hr : ∀ n, (g.getD n []).length ≤ 17592186044416) : ∃ k0, ∀ k, k0 ≤ k → graph_Right.f k g = some (rightFromA 0 g) := by
  obtain ⟨k0, hk0⟩ := gA_Right_l0 g hg hr g.length
  refine ⟨k0, fun k hk => ?_⟩
  unfold graph_Right.f
  rw [show (0 : Int) = ((0 : Nat) : Int) from rfl, hk0 0 k (by omega) (by omega), List.drop_zero]
theorem rd_getD {L : List Int} {m : Nat} (h : m < L.length) : rd L (m : Int) = L.getD m 0 := by rw [rd_get h, List.getD_eq_getElem?_getD, List.getElem?_eq_getElem h, Option.getD_some]
theorem gA_RightR_l1 (g : List (List Int)) (hg : g.length ≤ 5864062014805) (i : Nat) (hi : i < g.length) (hr : (g.getD i []).length ≤ 17592186044416) (d : Nat) : ∀ (j : Nat) (last : Int) (k K : Nat), K = k + d + 1 → j + d = (g.getD i []).length → (j = 0 → last = -1) → (∀ h : 0 < j, last = (g.getD i []).getD (j - 1) 0 ∧ 0 ≤ last) →
    heliastref12_Right.l1 K g (i : Int) (j : Int) = bif rightRowA i last ((g.getD i []).drop j) then heliastref12_Right.l0 k g ((i + 1 : Nat) : Int) else some false := by
  have hwi : wrap64 ((i : Int) + 1) = ((i + 1 : Nat) : Int) := by rw [wrap_sm (by omega) (by omega)]; rfl
  induction d with
  | zero =>
    intro j last k K hK hd h0 h1
    subst hK
    simp only [heliastref12_Right.l1]
    rw [if_pos (by omega), if_pos (by omega), g12_row, if_neg (by omega), List.drop_eq_nil_of_le (by omega), hwi]
    rfl
  | succ d ih =>
    intro j last k K0 hK hd h0 h1
    obtain ⟨K, rfl⟩ : ∃ m, K0 = m + 1 := ⟨K0 - 1, by omega⟩
    have hj : j < (g.getD i []).length := by omega
    have hw : wrap64 ((j : Int) + 1) = ((j + 1 : Nat) : Int) := by rw [wrap_sm (by omega) (by omega)]; rfl
    simp only [heliastref12_Right.l1]
    rw [if_pos (by omega), if_pos (by omega), g12_row, if_pos (by omega), if_pos (by omega), rd_get hj, List.drop_eq_getElem_cons hj, rightRowA, hw]
    have hlast : -1 ≤ last := by
      by_cases e : j = 0
      · have := h0 e; omega
      · have := (h1 (by omega)).2; omega
    have hgd : (g.getD i []).getD j 0 = (g.getD i [])[j] := by rw [List.getD_eq_getElem?_getD, List.getElem?_eq_getElem hj, Option.getD_some]
    have hnext : 0 ≤ (g.getD i [])[j] → heliastref12_Right.l1 K g (i : Int) ((j + 1 : Nat) : Int) = bif rightRowA i (g.getD i [])[j] ((g.getD i []).drop (j + 1)) then heliastref12_Right.l0 k g ((i + 1 : Nat) : Int) else some false :=
      fun hx => ih (j + 1) _ k K (by omega) (by omega) (fun h => by omega) (fun _ => ⟨by rw [Nat.add_sub_cancel, hgd], hx⟩)
    by_cases c1 : (g.getD i [])[j] < 0
    · rw [if_pos c1, if_pos (by omega)]; rfl
    · rw [if_neg c1]
      by_cases c2 : (g.getD i [])[j] ≥ (i : Int)
      · rw [if_pos c2]
        by_cases c0 : (g.getD i [])[j] ≤ last
        · rw [if_pos c0]; rfl
        · rw [if_neg c0, if_pos c2]; rfl
      · rw [if_neg c2]
        by_cases e : j = 0
        · have := h0 e
          rw [if_neg (by omega), hnext (by omega), if_neg (by omega), if_neg c2]
        · have hl := h1 (by omega)
          have hw2 : wrap64 ((j : Int) - 1) = ((j - 1 : Nat) : Int) := by rw [wrap_sm (by omega) (by omega)]; omega
          have hrd : rd (g.getD i []) ((j - 1 : Nat) : Int) = last := (rd_getD (by omega)).trans hl.1.symm
          rw [if_pos (by omega), hw2, if_pos (by omega), if_pos (by omega), hrd, hnext (by omega)]
          by_cases c3 : (g.getD i [])[j] ≤ last
          · rw [if_pos c3, if_pos c3]; rfl
          · rw [if_neg c3, if_neg c3, if_neg c2]
theorem gA_RightR_l0 (g : List (List Int)) (hg : g.length ≤ 5864062014805) (hr : ∀ n, (g.getD n []).length ≤ 17592186044416) (d : Nat) : ∃ k0, ∀ (i k : Nat), i + d = g.length → k0 ≤ k →
    heliastref12_Right.l0 k g (i : Int) = some (rightFromA i (g.drop i)) := by
  induction d with
  | zero =>
    refine ⟨1, fun i k hd hk => ?_⟩
    obtain ⟨k, rfl⟩ : ∃ m, k = m + 1 := ⟨k - 1, by omega⟩
    simp only [heliastref12_Right.l0]
    rw [if_neg (by omega), List.drop_eq_nil_of_le (by omega)]; rfl
  | succ d ih =>
    obtain ⟨k0, ih⟩ := ih
    refine ⟨k0 + 17592186044500, fun i k hd hk => ?_⟩
    have hi : i < g.length := by omega
    have hri := hr i
    have hge : g.getD i [] = g[i] := by simp [List.getD_eq_getElem?_getD, hi]
    obtain ⟨q, rfl⟩ : ∃ m, k = (m + (g.getD i []).length + 1) + 1 := ⟨k - (g.getD i []).length - 2, by omega⟩
    have h1 := gA_RightR_l1 g hg i hi hri (g.getD i []).length 0 (-1) q _ rfl (by omega) (fun _ => rfl) (fun h => by omega)
    simp only [heliastref12_Right.l0]
    rw [if_pos (by omega), show (0 : Int) = ((0 : Nat) : Int) from rfl, h1, ih (i + 1) q (by omega) (by omega), List.drop_eq_getElem_cons hi, hge]
    simp only [rightFromA, List.drop_zero]
    cases rightRowA (i : Int) (-1) g[i] <;> simp
theorem gA_RightR (g : List (List Int)) (hg : g.length ≤ 5864062014805) (hr : ∀ n, (g.getD n []).length ≤ 17592186044416) : ∃ k0, ∀ k, k0 ≤ k → heliastref12_Right.f k g = some (rightFromA 0 g) := by
  obtain ⟨k0, hk0⟩ := gA_RightR_l0 g hg hr g.length
  refine ⟨k0, fun k hk => ?_⟩
  unfold heliastref12_Right.f
  rw [show (0 : Int) = ((0 : Nat) : Int) from rfl, hk0 0 k (by omega) (by omega), List.drop_zero]
theorem rightRowA_spec (n : Int) : ∀ (l : List Int) (last : Int), rightRowA n last l = true ↔ (l.Pairwise (· < ·) ∧ ∀ x ∈ l, last < x ∧ x < n)
  | [], last => by simp [rightRowA]
  | x :: t, last => by
    simp only [rightRowA]
    have ih := rightRowA_spec n t x
    by_cases h1 : x ≤ last
    · rw [if_pos h1]
      refine ⟨fun h => (by cases h), fun h => ?_⟩
      have := h.2 x List.mem_cons_self; omega
    · rw [if_neg h1]
      by_cases h2 : x ≥ n
      · rw [if_pos h2]
        refine ⟨fun h => (by cases h), fun h => ?_⟩
        have := h.2 x List.mem_cons_self; omega
      · rw [if_neg h2, ih, List.pairwise_cons]
        constructor
        · rintro ⟨h3, h4⟩
          refine ⟨⟨fun y hy => (h4 y hy).1, h3⟩, fun y hy => ?_⟩
          rcases List.mem_cons.1 hy with rfl | hy
          · omega
          · have := h4 y hy; omega
        · rintro ⟨⟨h3, h4⟩, h5⟩
          exact ⟨h4, fun y hy => ⟨h3 y hy, (h5 y (List.mem_cons_of_mem _ hy)).2⟩⟩
theorem rightFromA_spec : ∀ (A : List (List Int)) (i : Nat), rightFromA i A = true ↔ ∀ n, n < A.length → rightRowA ((i + n : Nat) : Int) (-1) (A.getD n []) = true
  | [], i => by simp [rightFromA]
  | a :: A, i => by
    simp only [rightFromA]
    rw [Bool.and_eq_true, rightFromA_spec A (i + 1)]
    constructor
    · rintro ⟨h1, h2⟩ n hn
      cases n with
      | zero => exact h1
      | succ n => have := h2 n (by simpa using hn); rw [show i + 1 + n = i + (n + 1) by omega] at this; exact this
    · intro h
      refine ⟨h 0 (by simp), fun n hn => ?_⟩
      have := h (n + 1) (by simpa using hn)
      rw [show i + 1 + n = i + (n + 1) by omega]; exact this
theorem rightFromA_good {g : List (List Int)} : rightFromA 0 g = true ↔ BackG g := by
  rw [rightFromA_spec]
  constructor
  · intro h
    refine ⟨fun n hn => ?_, fun n hn x hx => ?_⟩
    · exact ((rightRowA_spec _ _ _).1 (h n hn)).1
    · have := ((rightRowA_spec _ _ _).1 (h n hn)).2 x hx; omega
  · intro h n hn
    rw [rightRowA_spec]
    exact ⟨h.rise n hn, fun x hx => by have := h.back n hn x hx; omega⟩
/-! Long -/
def TkL (g : List (List Int)) (k : Nat) (m : Int) (r : Nat) : List Int := longT g k ++ m :: List.replicate r 0
theorem TkL_length (g : List (List Int)) (k : Nat) (m : Int) (r : Nat) : (TkL g k m r).length = k + 1 + r := by
  unfold TkL; rw [List.length_append, longT_length, List.length_cons, List.length_replicate]; omega
theorem TkL_at (g : List (List Int)) (k : Nat) (m : Int) (r : Nat) : rd (TkL g k m r) (k : Int) = m := by
  rw [rd_getD (by rw [TkL_length]; omega)]
  unfold TkL
  rw [List.getD_eq_getElem?_getD, List.getElem?_append_right (by rw [longT_length]; omega), longT_length, Nat.sub_self]; rfl
theorem TkL_lo (g : List (List Int)) (k : Nat) (m : Int) (r : Nat) {b : Int} (h0 : 0 ≤ b) (h1 : b < k) : rd (TkL g k m r) b = (longT g k).getD b.toNat 0 := by
  obtain ⟨b, rfl⟩ : ∃ n : Nat, b = n := ⟨b.toNat, by omega⟩
  rw [rd_getD (by rw [TkL_length]; omega), Int.toNat_natCast]
  unfold TkL
  rw [List.getD_eq_getElem?_getD, List.getElem?_append_left (by rw [longT_length]; omega), ← List.getD_eq_getElem?_getD]
theorem TkL_set (g : List (List Int)) (k : Nat) (m v : Int) (r : Nat) : (TkL g k m r).set k v = TkL g k v r := by
  unfold TkL
  rw [List.set_append_right _ _ (by rw [longT_length]; omega), longT_length, Nat.sub_self, List.set_cons_zero]
theorem gA_Long_l1 (g : List (List Int)) (hg : g.length ≤ 5864062014805) (n : Int) (i r : Nat) (hi : i + 1 + r = g.length) (hr : (g.getD i []).length ≤ 17592186044416) (d : Nat) : ∀ (j : Nat) (m : Int) (k K : Nat), K = k + d + 1 → j + d = (g.getD i []).length →
    heliastref12_Long.l1 K g n (TkL g i m r) (i : Int) (j : Int) = heliastref12_Long.l0 k g n (TkL g i (rowMax (longT g i) i m ((g.getD i []).drop j)) r) ((i + 1 : Nat) : Int) := by
  have hwi : wrap64 ((i : Int) + 1) = ((i + 1 : Nat) : Int) := by rw [wrap_sm (by omega) (by omega)]; rfl
  induction d with
  | zero =>
    intro j m k K hK hd
    subst hK
    simp only [heliastref12_Long.l1]
    rw [if_pos (by omega), if_pos (by omega), g12_row, if_neg (by omega), List.drop_eq_nil_of_le (by omega), hwi]
    rfl
  | succ d ih =>
    intro j m k K0 hK hd
    obtain ⟨K, rfl⟩ : ∃ m, K0 = m + 1 := ⟨K0 - 1, by omega⟩
    have hj : j < (g.getD i []).length := by omega
    have hw : wrap64 ((j : Int) + 1) = ((j + 1 : Nat) : Int) := by rw [wrap_sm (by omega) (by omega)]; rfl
    have hT := TkL_length g i m r
    simp only [heliastref12_Long.l1]
    rw [if_pos (by omega), if_pos (by omega), g12_row, if_pos (by omega), if_pos (by omega), rd_get hj, List.drop_eq_getElem_cons hj, hw, rowMax]
    by_cases h0 : (g.getD i [])[j] ≥ 0
    · by_cases h1 : (g.getD i [])[j] < (i : Int)
      · have hb := longT_bd g i (g.getD i [])[j].toNat
        have hv : mx m (wrap64 ((longT g i).getD (g.getD i [])[j].toNat 0 + 1)) = mxL m (1 + (longT g i).getD (g.getD i [])[j].toNat 0) := by
          rw [wrap_sm (by omega) (by omega), Int.add_comm]; rfl
        rw [if_pos h0, if_pos h1, if_pos (by omega), if_pos h0, if_pos (by omega), Int.toNat_natCast, TkL_at, TkL_lo g i m r h0 h1, TkL_set, hv, ih (j + 1) _ k K (by omega) (by omega), if_pos ⟨h0, h1⟩]
      · rw [if_pos h0, if_neg h1, ih (j + 1) _ k K (by omega) (by omega), if_neg (fun h => h1 h.2)]
    · rw [if_neg h0, ih (j + 1) _ k K (by omega) (by omega), if_neg (fun h => h0 h.1)]
theorem gA_Long_l0 (g : List (List Int)) (hg : g.length ≤ 5864062014805) (hr : ∀ n, (g.getD n []).length ≤ 17592186044416) (n : Nat) (hn : n < g.length) (d : Nat) : ∃ k0, ∀ (i k : Nat), i + d = n + 1 → k0 ≤ k →
    heliastref12_Long.l0 k g (n : Int) (longT g i ++ List.replicate (g.length - i) 0) (i : Int) = some ((longT g (n + 1)).getD n 0) := by
  induction d with
  | zero =>
    refine ⟨1, fun i k hd hk => ?_⟩
    obtain ⟨k, rfl⟩ : ∃ m, k = m + 1 := ⟨k - 1, by omega⟩
    obtain rfl : i = n + 1 := by omega
    have hl : (longT g (n + 1) ++ List.replicate (g.length - (n + 1)) 0).length = g.length := by rw [List.length_append, longT_length, List.length_replicate]; omega
    simp only [heliastref12_Long.l0]
    rw [if_neg (by omega), if_pos (by omega), if_pos (by omega), rd_getD (by omega), List.getD_eq_getElem?_getD, List.getElem?_append_left (by rw [longT_length]; omega), ← List.getD_eq_getElem?_getD]
  | succ d ih =>
    obtain ⟨k0, ih⟩ := ih
    refine ⟨k0 + 17592186044500, fun i k hd hk => ?_⟩
    have hri := hr i
    obtain ⟨r, hrr⟩ : ∃ r, g.length - i = r + 1 := ⟨g.length - i - 1, by omega⟩
    obtain ⟨q, rfl⟩ : ∃ m, k = (m + (g.getD i []).length + 1) + 1 := ⟨k - (g.getD i []).length - 2, by omega⟩
    have h1 := gA_Long_l1 g hg (n : Int) i r (by omega) hri (g.getD i []).length 0 0 q _ rfl (by omega)
    have h2 : TkL g i (rowMax (longT g i) i 0 (g.getD i [])) r = longT g (i + 1) ++ List.replicate (g.length - (i + 1)) 0 := by
      unfold TkL
      rw [longT, List.append_assoc, List.singleton_append, show g.length - (i + 1) = r by omega]
    simp only [heliastref12_Long.l0]
    rw [if_pos (by omega), hrr, List.replicate_succ]
    show heliastref12_Long.l1 _ g (n : Int) (TkL g i 0 r) (i : Int) ((0 : Nat) : Int) = _
    rw [h1, List.drop_zero, h2, ih (i + 1) q (by omega) (by omega)]
theorem gA_Long (g : List (List Int)) (n : Int) (hg : g.length ≤ 5864062014805) (hr : ∀ n, (g.getD n []).length ≤ 17592186044416) : ∃ k0, ∀ k, k0 ≤ k → heliastref12_Long.f k g n = some (longL g n) := by
  unfold heliastref12_Long.f longL
  by_cases h0 : n < 0
  · refine ⟨1, fun k hk => ?_⟩
    obtain ⟨k, rfl⟩ : ∃ m, k = m + 1 := ⟨k - 1, by omega⟩
    rw [if_pos h0, if_pos h0]; simp [heliastref12_Long.j0]
  · by_cases h1 : n ≥ g.length
    · refine ⟨1, fun k hk => ?_⟩
      obtain ⟨k, rfl⟩ : ∃ m, k = m + 1 := ⟨k - 1, by omega⟩
      rw [if_neg h0, if_neg h0, if_pos h1, decide_eq_true h1]; simp [heliastref12_Long.j0]
    · obtain ⟨n, rfl⟩ : ∃ m : Nat, n = m := ⟨n.toNat, by omega⟩
      obtain ⟨k0, hk0⟩ := gA_Long_l0 g hg hr n (by omega) (n + 1)
      refine ⟨k0 + 1, fun k hk => ?_⟩
      obtain ⟨k, rfl⟩ : ∃ m, k = m + 1 := ⟨k - 1, by omega⟩
      rw [if_neg h0, if_neg h0, if_neg h1, decide_eq_false h1]
      simp only [heliastref12_Long.j0]
      have := hk0 0 k (by omega) (by omega)
      rw [if_neg (by simp), if_pos (by omega), if_pos (by omega), Int.toNat_natCast, Int.toNat_natCast]
      exact this
/-! Order -/
theorem gA_ready_l0 (past left : List Int) (hp : past.length ≤ 5864062014805) (hl : left.length ≤ 5864062014805) (d : Nat) : ∀ (i k : Nat), i + d = left.length → d + 5864062014900 ≤ k → heliastref12_ready.l0 k past left (i : Int) = some (!((left.drop i).any fun x => decide (x ∈ past))) := by
  induction d with
  | zero =>
    intro i k hd hk
    obtain ⟨k, rfl⟩ : ∃ m, k = m + 1 := ⟨k - 1, by omega⟩
    simp only [heliastref12_ready.l0]
    rw [if_neg (by omega), List.drop_eq_nil_of_le (by omega)]; rfl
  | succ d ih =>
    intro i k hd hk
    obtain ⟨k, rfl⟩ : ∃ m, k = m + 1 := ⟨k - 1, by omega⟩
    have hi : i < left.length := by omega
    have hw : wrap64 ((i : Int) + 1) = ((i + 1 : Nat) : Int) := by rw [wrap_sm (by omega) (by omega)]; rfl
    simp only [heliastref12_ready.l0]
    rw [if_pos (by omega), if_pos (by omega), rd_get hi, g12_Has _ _ (by omega) k (by omega), Option.bind_some, List.drop_eq_getElem_cons hi, List.any_cons, hw, ih (i + 1) k (by omega) (by omega)]
    by_cases h : left[i] ∈ past
    · rw [decide_eq_true h, if_pos rfl]; rfl
    · rw [decide_eq_false h, if_neg (by simp), Bool.false_or]
theorem gA_ready (g : List (List Int)) (hg : g.length ≤ 5864062014805) (W : List Int) (hW : W.length ≤ 5864062014805) (n : Int) (h0 : 0 ≤ n) (h1 : n < g.length) (k : Nat) (hk : 17592186044417 ≤ k) : heliastref12_ready.f k (pastL g n) W = some (freeIn g W n) := by
  have hpl : (pastL g n).length ≤ 5864062014805 := by rw [pastL_eq h0 h1]; exact Nat.le_trans (pickL_length _ _) hg
  unfold heliastref12_ready.f
  rw [show (0 : Int) = ((0 : Nat) : Int) from rfl, gA_ready_l0 _ _ hpl hW W.length 0 k (by omega) (by omega), List.drop_zero, pastL_eq h0 h1]
  unfold freeIn
  have : (fun x => decide (x ∈ rchL g (g.getD n.toNat []))) = fun k => rchB g (g.getD n.toNat []) k := by
    funext x; rw [Bool.eq_iff_iff, decide_eq_true_iff, mem_rchL, rchB_iff]
  rw [this]
theorem gA_rankOf (rank : List Int) (x : Int) (h0 : 0 ≤ x) : heliastref12_rankOf.f rank x = some (rankAt rank x) := by
  unfold heliastref12_rankOf.f rankAt
  by_cases h : x ≥ rank.length
  · rw [if_pos h, if_pos h]
  · obtain ⟨n, rfl⟩ : ∃ m : Nat, x = m := ⟨x.toNat, by omega⟩
    rw [if_neg h, if_neg h, if_pos h0, if_pos (by omega), rd_getD (by omega), Int.toNat_natCast]
def BestInv (g : List (List Int)) (rank W : List Int) (i : Nat) (best : Int) : Prop :=
  (best = -1 ∧ ∀ j, (h : j < W.length) → j < i → freeIn g W W[j] = false) ∨
  ∃ b, ∃ hb : b < W.length, best = (b : Int) ∧ b < i ∧ freeIn g W W[b] = true ∧ ∀ j, (h : j < W.length) → j < i → freeIn g W W[j] = true → lessN rank W[j] W[b] = false
theorem rises_at {W : List Int} (h : W.Pairwise (· < ·)) {i j : Nat} (hj : j < W.length) (hij : i < j) : W[i]'(by omega) < W[j] := List.pairwise_iff_getElem.1 h i j (by omega) hj hij
theorem gA_Order_l2 (g : List (List Int)) (hg : g.length ≤ 5864062014805) (rank W : List Int) (hW : W.length ≤ 5864062014805) (hr : W.Pairwise (· < ·)) (hv : ∀ x ∈ W, 0 ≤ x ∧ x < g.length) (out : List Int) (d : Nat) : ∀ (i : Nat) (b0 : Int), i + d = W.length → BestInv g rank W i b0 →
    ∃ best, BestInv g rank W W.length best ∧ ∀ k K, K = k + d → 17592186044417 ≤ k → heliastref12_Order.l2 K rank W (W.map (pastL g)) out b0 (i : Int) = heliastref12_Order.l2 k rank W (W.map (pastL g)) out best (W.length : Int) := by
  induction d with
  | zero =>
    intro i b0 hd hB
    obtain rfl : i = W.length := by omega
    exact ⟨b0, hB, fun k K hK _ => by subst hK; rfl⟩
  | succ d ih =>
    intro i b0 hd hB
    have hi : i < W.length := by omega
    have hw : wrap64 ((i : Int) + 1) = ((i + 1 : Nat) : Int) := by rw [wrap_sm (by omega) (by omega)]; rfl
    have hvi := hv _ (List.getElem_mem hi)
    have hP : rd_L1 (W.map (pastL g)) (i : Int) = pastL g W[i] := by
      rw [g12_row, List.getD_eq_getElem?_getD, List.getElem?_map, List.getElem?_eq_getElem hi]; rfl
    have step : ∀ (b1 : Int), BestInv g rank W (i + 1) b1 → (∀ K, 17592186044417 ≤ K → heliastref12_Order.l2 (K + 1) rank W (W.map (pastL g)) out b0 (i : Int) = heliastref12_Order.l2 K rank W (W.map (pastL g)) out b1 ((i + 1 : Nat) : Int)) →
        ∃ best, BestInv g rank W W.length best ∧ ∀ k K, K = k + (d + 1) → 17592186044417 ≤ k → heliastref12_Order.l2 K rank W (W.map (pastL g)) out b0 (i : Int) = heliastref12_Order.l2 k rank W (W.map (pastL g)) out best (W.length : Int) := by
      intro b1 hb1 hs
      obtain ⟨best, h1, h2⟩ := ih (i + 1) b1 (by omega) hb1
      refine ⟨best, h1, fun k K hK hk => ?_⟩
      obtain ⟨K, rfl⟩ : ∃ m, K = m + 1 := ⟨K - 1, by omega⟩
      rw [hs K (by omega)]
      exact h2 k K (by omega) hk
    by_cases hf : freeIn g W W[i] = true
    · rcases hB with ⟨rfl, hno⟩ | ⟨b, hb, rfl, hbi, hbf, hbm⟩
      · refine step _ (.inr ⟨i, hi, rfl, by omega, hf, fun j hj hji hjf => ?_⟩) (fun K hk => ?_)
        · by_cases e : j = i
          · subst e; exact lessN_irrefl rank _
          · rw [hno j hj (by omega)] at hjf; cases hjf
        · simp only [heliastref12_Order.l2]
          rw [if_pos (by omega), if_pos (by omega), if_pos (by rw [List.length_map]; omega), hP, gA_ready g hg W hW _ hvi.1 hvi.2 K (by omega), Option.bind_some, hw, if_pos hf, if_pos (by omega)]
      · have hvb := hv _ (List.getElem_mem hb)
        by_cases hc : rankAt rank W[i] < rankAt rank W[b]
        · have hib : lessN rank W[i] W[b] = true := by unfold lessN; rw [decide_eq_true hc]; rfl
          refine step _ (.inr ⟨i, hi, rfl, by omega, hf, fun j hj hji hjf => ?_⟩) (fun K hk => ?_)
          · by_cases e : j = i
            · subst e; exact lessN_irrefl rank _
            · cases hl : lessN rank W[j] W[i] with
              | false => rfl
              | true => have := lessN_trans hl hib; rw [hbm j hj (by omega) hjf] at this; cases this
          · simp only [heliastref12_Order.l2]
            rw [if_pos (by omega), if_pos (by omega), if_pos (by rw [List.length_map]; omega), hP, gA_ready g hg W hW _ hvi.1 hvi.2 K (by omega), Option.bind_some, hw, if_pos hf, if_neg (by omega), rd_get hi, gA_rankOf rank _ hvi.1, Option.bind_some, if_pos (by omega), if_pos (by omega), rd_get hb, gA_rankOf rank _ hvb.1, Option.bind_some, if_pos hc]
        · refine step _ (.inr ⟨b, hb, rfl, by omega, hbf, fun j hj hji hjf => ?_⟩) (fun K hk => ?_)
          · by_cases e : j = i
            · subst e
              have hlt := rises_at hr hj hbi
              unfold lessN
              rw [decide_eq_false hc, decide_eq_false (show ¬ W[j] < W[b] by omega), Bool.and_false, Bool.or_false]
            · exact hbm j hj (by omega) hjf
          · simp only [heliastref12_Order.l2]
            rw [if_pos (by omega), if_pos (by omega), if_pos (by rw [List.length_map]; omega), hP, gA_ready g hg W hW _ hvi.1 hvi.2 K (by omega), Option.bind_some, hw, if_pos hf, if_neg (by omega), rd_get hi, gA_rankOf rank _ hvi.1, Option.bind_some, if_pos (by omega), if_pos (by omega), rd_get hb, gA_rankOf rank _ hvb.1, Option.bind_some, if_neg hc]
    · have hf' : freeIn g W W[i] = false := by simpa using hf
      refine step b0 ?_ (fun K hk => ?_)
      · rcases hB with ⟨h1, hno⟩ | ⟨b, hb, h1, hbi, hbf, hbm⟩
        · refine .inl ⟨h1, fun j hj hji => ?_⟩
          by_cases e : j = i
          · subst e; exact hf'
          · exact hno j hj (by omega)
        · refine .inr ⟨b, hb, h1, by omega, hbf, fun j hj hji hjf => ?_⟩
          by_cases e : j = i
          · subst e; rw [hf'] at hjf; cases hjf
          · exact hbm j hj (by omega) hjf
      · simp only [heliastref12_Order.l2]
        rw [if_pos (by omega), if_pos (by omega), if_pos (by rw [List.length_map]; omega), hP, gA_ready g hg W hW _ hvi.1 hvi.2 K (by omega), Option.bind_some, hw, if_neg hf]
theorem gA_Order_l3 (g : List (List Int)) (rank W : List Int) (hW : W.length ≤ 5864062014805) (hr : W.Pairwise (· < ·)) (out : List Int) (b : Nat) (hb : b < W.length) (d : Nat) : ∀ (i : Nat) (a : List Int) (k K : Nat), K = k + d + 1 → i + d = W.length → a.length ≤ i →
    heliastref12_Order.l3 K rank W (W.map (pastL g)) out (b : Int) a (a.map (pastL g)) (i : Int) = heliastref12_Order.l1 k rank (a ++ (W.drop i).filter (fun x => decide (x ≠ W[b]))) ((a ++ (W.drop i).filter (fun x => decide (x ≠ W[b]))).map (pastL g)) out := by
  induction d with
  | zero =>
    intro i a k K hK hd ha
    subst hK
    simp only [heliastref12_Order.l3]
    rw [if_neg (by omega), List.drop_eq_nil_of_le (by omega)]; simp
  | succ d ih =>
    intro i a k K0 hK hd ha
    obtain ⟨K, rfl⟩ : ∃ m, K0 = m + 1 := ⟨K0 - 1, by omega⟩
    have hi : i < W.length := by omega
    have hw : wrap64 ((i : Int) + 1) = ((i + 1 : Nat) : Int) := by rw [wrap_sm (by omega) (by omega)]; rfl
    have hP : rd_L1 (W.map (pastL g)) (i : Int) = pastL g W[i] := by
      rw [g12_row, List.getD_eq_getElem?_getD, List.getElem?_map, List.getElem?_eq_getElem hi]; rfl
    simp only [heliastref12_Order.l3]
    rw [if_pos (by omega), hw, List.drop_eq_getElem_cons hi]
    by_cases e : i = b
    · subst e
      rw [if_pos rfl, List.filter_cons_of_neg (by simp), ih (i + 1) a k K (by omega) (by omega) (by omega)]
    · have hne : W[i] ≠ W[b] := fun h => by
        rcases Nat.lt_or_gt_of_ne e with h1 | h1
        · have := rises_at hr hb h1; omega
        · have := rises_at hr hi h1; omega
      have hs : (a ++ [W[i]]).map (pastL g) = a.map (pastL g) ++ [pastL g W[i]] := by simp
      rw [if_neg (by omega), if_pos (by omega), if_pos (by omega), if_pos (by rw [List.length_map]; omega), if_pos (by rw [List.length_map]; omega), rd_get hi, hP, ← hs, ih (i + 1) _ k K (by omega) (by omega) (by simp; omega), List.filter_cons_of_pos (by simpa using hne)]
      simp
theorem gA_Order_l1 (g : List (List Int)) (hg : g.length ≤ 5864062014805) (rank : List Int) : ∀ (f : Nat) (W out : List Int), W.length ≤ f → W.length + out.length ≤ 5864062014805 → W.Pairwise (· < ·) → (∀ x ∈ W, 0 ≤ x ∧ x < g.length) → ∃ k0, ∀ k, k0 ≤ k →
    heliastref12_Order.l1 k rank W (W.map (pastL g)) out = some (out ++ ordGo g rank f W)
  | 0, W, out, hf, hl, hr, hv => ⟨1, fun k hk => by
    obtain ⟨k, rfl⟩ : ∃ m, k = m + 1 := ⟨k - 1, by omega⟩
    simp only [heliastref12_Order.l1, ordGo]
    rw [if_neg (by omega)]; simp⟩
  | f + 1, W, out, hf, hl, hr, hv => by
    by_cases he : W.length = 0
    · obtain rfl : W = [] := List.eq_nil_of_length_eq_zero he
      refine ⟨1, fun k hk => ?_⟩
      obtain ⟨k, rfl⟩ : ∃ m, k = m + 1 := ⟨k - 1, by omega⟩
      simp only [heliastref12_Order.l1, ordGo]
      rw [if_neg (by simp)]; simp
    · obtain ⟨best, hB, h2⟩ := gA_Order_l2 g hg rank W (by omega) hr hv out W.length 0 (-1) (by omega) (.inl ⟨rfl, fun j _ h => by omega⟩)
      rcases hB with ⟨rfl, hno⟩ | ⟨b, hb, rfl, _, hbf, hbm⟩
      · have hnil : W.filter (freeIn g W) = [] := List.filter_eq_nil_iff.2 (fun x hx => by
          obtain ⟨j, hj, rfl⟩ := List.getElem_of_mem hx
          rw [hno j hj hj]; simp)
        refine ⟨W.length + 17592186044420, fun k hk => ?_⟩
        obtain ⟨q, rfl⟩ : ∃ q, k = ((q + 1) + W.length) + 1 := ⟨k - W.length - 2, by omega⟩
        obtain ⟨K, hK⟩ : ∃ K, K = (q + 1) + W.length := ⟨_, rfl⟩
        have h3 := h2 (q + 1) K hK (by omega)
        rw [← hK]
        simp only [heliastref12_Order.l1]
        rw [if_pos (by omega), show (0 : Int) = ((0 : Nat) : Int) from rfl, h3]
        simp only [heliastref12_Order.l2]
        rw [if_neg (by omega), if_pos (by omega)]
        simp [ordGo, hnil]
      · have hmem : W[b] ∈ W.filter (freeIn g W) := List.mem_filter.2 ⟨List.getElem_mem hb, hbf⟩
        have hmin : ∀ x ∈ W.filter (freeIn g W), lessN rank x W[b] = false := fun x hx => by
          obtain ⟨hx1, hx2⟩ := List.mem_filter.1 hx
          obtain ⟨j, hj, rfl⟩ := List.getElem_of_mem hx1
          exact hbm j hj hj hx2
        have hgo : ordGo g rank (f + 1) W = W[b] :: ordGo g rank f (W.filter fun k => decide (k ≠ W[b])) := by
          rw [ordGo]
          cases hc : W.filter (freeIn g W) with
          | nil => rw [hc] at hmem; cases hmem
          | cons x l =>
            have hs := leastN_spec rank l x
            rw [hc] at hmem hmin
            have e := least_unique (l := x :: l) hs.1 hs.2 hmem hmin
            simp only [e]
        have hfl : (W.filter fun x => decide (x ≠ W[b])).length + 1 ≤ W.length := by
          have : (W.filter fun x => decide (x ≠ W[b])).length < W.length := List.length_filter_lt_length_iff_exists.2 ⟨W[b], List.getElem_mem hb, by simp⟩
          omega
        obtain ⟨k0, ihk⟩ := gA_Order_l1 g hg rank f (W.filter fun x => decide (x ≠ W[b])) (out ++ [W[b]]) (by omega) (by rw [List.length_append, List.length_singleton]; omega) (hr.filter _) (fun x hx => hv x (List.mem_filter.1 hx).1)
        refine ⟨k0 + 2 * W.length + 17592186044420, fun k hk => ?_⟩
        obtain ⟨q, rfl⟩ : ∃ q, k = ((q + W.length + 1) + 1 + W.length) + 1 := ⟨k - 2 * W.length - 3, by omega⟩
        obtain ⟨K1, hK1⟩ : ∃ K, K = q + W.length + 1 := ⟨_, rfl⟩
        obtain ⟨K, hK⟩ : ∃ K, K = (K1 + 1) + W.length := ⟨_, rfl⟩
        have h4 := h2 (K1 + 1) K hK (by omega)
        have h3 := gA_Order_l3 g rank W (by omega) hr (out ++ [W[b]]) b hb W.length 0 [] q K1 hK1 (by omega) (by simp)
        rw [← hK1, ← hK]
        simp only [heliastref12_Order.l1]
        rw [if_pos (by omega), show (0 : Int) = ((0 : Nat) : Int) from rfl, h4]
        simp only [heliastref12_Order.l2]
        rw [if_neg (by omega), if_neg (by omega), if_pos (by omega), if_pos (by omega), if_pos (by omega), rd_get hb]
        show heliastref12_Order.l3 _ rank W _ _ (b : Int) [] (List.map (pastL g) []) ((0 : Nat) : Int) = _
        rw [h3, List.drop_zero, List.nil_append, ihk q (by omega), hgo]
        simp
theorem gA_pasts (g : List (List Int)) (hg : g.length ≤ 5864062014805) (hr : ∀ n, (g.getD n []).length ≤ 17592186044416) : ∀ (W : List Int), ∃ k0, ∀ k, k0 ≤ k → ∀ x ∈ W, heliastref12_Past.f k g x = some (pastL g x)
  | [] => ⟨0, fun k _ x hx => by cases hx⟩
  | y :: W => by
    obtain ⟨k0, h0⟩ := gA_pasts g hg hr W
    obtain ⟨k1, h1⟩ := gA_Past g y hg hr
    refine ⟨k0 + k1, fun k hk x hx => ?_⟩
    rcases List.mem_cons.1 hx with rfl | hx
    · exact h1 k (by omega)
    · exact h0 k (by omega) x hx
theorem gA_Order_l0 (g : List (List Int)) (rank W : List Int) (hW : W.length ≤ 5864062014805) (k0 : Nat) (hp : ∀ k, k0 ≤ k → ∀ x ∈ W, heliastref12_Past.f k g x = some (pastL g x)) (d : Nat) : ∀ (i : Nat) (k K : Nat), K = k + d + 1 → i + d = W.length → k0 ≤ k →
    heliastref12_Order.l0 K g rank W ((W.take i).map (pastL g)) (i : Int) = heliastref12_Order.l1 k rank W (W.map (pastL g)) [] := by
  induction d with
  | zero =>
    intro i k K hK hd hk
    subst hK
    simp only [heliastref12_Order.l0]
    rw [if_neg (by omega), List.take_of_length_le (by omega)]
  | succ d ih =>
    intro i k K0 hK hd hk
    obtain ⟨K, rfl⟩ : ∃ m, K0 = m + 1 := ⟨K0 - 1, by omega⟩
    have hi : i < W.length := by omega
    have hw : wrap64 ((i : Int) + 1) = ((i + 1 : Nat) : Int) := by rw [wrap_sm (by omega) (by omega)]; rfl
    have hs : (W.take i).map (pastL g) ++ [pastL g W[i]] = (W.take (i + 1)).map (pastL g) := by rw [List.take_succ_eq_append_getElem hi, List.map_append]; rfl
    simp only [heliastref12_Order.l0]
    rw [if_pos (by omega), if_pos (by omega), rd_get hi, hp K (by omega) _ (List.getElem_mem hi), Option.bind_some, if_pos (by rw [List.length_map, List.length_take]; omega), hs, hw, ih (i + 1) k K (by omega) (by omega) hk]
theorem gA_Order (g : List (List Int)) (l rank : List Int) (hg : g.length ≤ 5864062014805) (hr : ∀ n, (g.getD n []).length ≤ 17592186044416) (hl : l.length < 4611686018427387904) : ∃ k0, ∀ k, k0 ≤ k → heliastref12_Order.f k g l rank = some (ordL g l rank) := by
  have hlen : (setL g l).length ≤ 5864062014805 := Nat.le_trans (pickL_length _ _) hg
  obtain ⟨k1, h1⟩ := gA_pasts g hg hr (setL g l)
  obtain ⟨k2, h2⟩ := gA_Order_l1 g hg rank (setL g l).length (setL g l) [] (Nat.le_refl _) (by simpa using hlen) (pickL_rises g _) (fun x hx => (mem_setL.1 hx).1)
  refine ⟨k1 + k2 + g.length + l.length + (setL g l).length + 3, fun k hk => ?_⟩
  unfold heliastref12_Order.f
  obtain ⟨q, rfl⟩ : ∃ q, k = q + (setL g l).length + 1 := ⟨k - (setL g l).length - 1, by omega⟩
  rw [g12_Set g l (by omega) hl _ (by omega), Option.bind_some]
  have h := gA_Order_l0 g rank (setL g l) hlen k1 h1 (setL g l).length 0 q _ rfl (by omega) (by omega)
  rw [List.take_zero, List.map_nil] at h
  rw [show (0 : Int) = ((0 : Nat) : Int) from rfl, h, h2 q (by omega)]
  rfl
theorem gA_GPast (g : List (List Int)) (n : Int) (hg : g.length ≤ 5864062014805) : graph_Past.f g n = some (pastL g n) := by
  unfold graph_Past.f pastL graph_Reach.f
  by_cases h0 : n < 0
  · rw [if_pos h0, if_pos h0]
  · by_cases h1 : n ≥ g.length
    · rw [if_neg h0, if_pos h1, if_neg h0, if_pos h1]
    · rw [if_neg h0, if_neg h1, if_neg h0, if_neg h1, if_pos (by omega), if_pos (by omega), if_pos (by omega)]; rfl
theorem back_rows {g : List (List Int)} (hG : BackG g) (n : Nat) : (g.getD n []).length ≤ g.length := by
  by_cases hn : n < g.length
  · have := (rises_nodup (hG.rise n hn)).length_le_of_subset (l₂ := seg 0 n) (fun x hx => mem_seg.2 (by have := hG.back n hn x hx; omega))
    rw [seg_length] at this; omega
  · rw [List.getD_eq_getElem?_getD, List.getElem?_eq_none (by omega)]; simp
theorem back_flat {g : List (List Int)} (hG : BackG g) : ∀ x ∈ g.flatten, 0 ≤ x ∧ x < (g.length : Int) := fun x hx => by
  obtain ⟨r, hr, hx⟩ := List.mem_flatten.1 hx
  obtain ⟨n, hn, rfl⟩ := List.getElem_of_mem hr
  have := hG.back n hn x (by rw [List.getD_eq_getElem?_getD, List.getElem?_eq_getElem hn, Option.getD_some]; exact hx)
  omega
theorem ordGo_length (g : List (List Int)) (rank : List Int) : ∀ (f : Nat) (W : List Int), (ordGo g rank f W).length ≤ f
  | 0, W => by simp [ordGo]
  | f + 1, W => by
    rw [ordGo]
    cases W.filter (freeIn g W) with
    | nil => simp
    | cons x l => simp only [List.length_cons]; have := ordGo_length g rank f (W.filter fun k => decide (k ≠ leastN rank x l)); omega
theorem gA_asks (g : List (List Int)) (l rank : List Int) (n : Int) (hG : BackG g) (hg : g.length ≤ 5864062014805) (hl : l.length < 4611686018427387904) : ∃ k0, ∀ k, k0 ≤ k → heliastlaw12_asks.f k g l rank n = some true := by
  have hr : ∀ n, (g.getD n []).length ≤ 17592186044416 := fun n => by have := back_rows hG n; omega
  obtain ⟨k1, h1⟩ := gA_Reach g l hg hr hl
  obtain ⟨k2, h2⟩ := gA_Past g n hg hr
  obtain ⟨k3, h3⟩ := gA_Heads g l hg hr hl
  obtain ⟨k4, h4⟩ := gA_Order g l rank hg hr hl
  obtain ⟨k5, h5⟩ := gA_Long g n hg hr
  have l1 : (rchL g l).length ≤ g.length := pickL_length _ _
  have l2 : (pastL g n).length ≤ g.length := by
    unfold pastL; split
    · simp
    · split
      · simp
      · exact pickL_length _ _
  have l3 : (headL g l).length ≤ g.length := by unfold headL; exact Nat.le_trans (List.length_filter_le _ _) (pickL_length _ _)
  have l4 : (ordL g l rank).length ≤ g.length := by unfold ordL; exact Nat.le_trans (ordGo_length _ _ _ _) (pickL_length _ _)
  refine ⟨k1 + k2 + k3 + k4 + k5 + g.length + 1, fun k hk => ?_⟩
  unfold heliastlaw12_asks.f
  have e1 : graph_Reach.f g l = some (rchL g l) := by unfold graph_Reach.f; rw [if_pos (by omega)]
  have e3 : graph_Heads.f g l = some (headL g l) := by unfold graph_Heads.f; exact if_pos ⟨by omega, back_flat hG⟩
  have e4 : graph_Order.f g l rank = some (ordL g l rank) := by unfold graph_Order.f; rw [if_pos (by omega)]
  have e5 : graph_Long.f g n = some (longL g n) := by unfold graph_Long.f; rw [if_pos (by omega)]
  rw [e1, Option.bind_some, h1 k (by omega), Option.bind_some, g12_Same _ _ (by omega) k (by omega), Option.bind_some, if_pos (by simp),
    gA_GPast g n hg, Option.bind_some, h2 k (by omega), Option.bind_some, g12_Same _ _ (by omega) k (by omega), Option.bind_some, if_pos (by simp),
    e3, Option.bind_some, h3 k (by omega), Option.bind_some, g12_Same _ _ (by omega) k (by omega), Option.bind_some, if_pos (by simp),
    e4, Option.bind_some, h4 k (by omega), Option.bind_some, g12_Same _ _ (by omega) k (by omega), Option.bind_some, if_pos (by simp),
    e5, Option.bind_some, h5 k (by omega), Option.bind_some]
  simp
theorem gA_heavy_l0 (g : List (List Int)) (hg : g.length ≤ 5864062014805) (d : Nat) : ∀ (i : Nat) (x : Int), i + d = g.length → ∃ b, ∀ k, d + 1 ≤ k → heliastlaw12_heavy.l0 k g x (i : Int) = some b := by
  induction d with
  | zero =>
    intro i x hd
    refine ⟨decide (x > 300), fun k hk => ?_⟩
    obtain ⟨k, rfl⟩ : ∃ m, k = m + 1 := ⟨k - 1, by omega⟩
    simp only [heliastlaw12_heavy.l0]
    rw [if_neg (by omega)]
  | succ d ih =>
    intro i x hd
    have hw : wrap64 ((i : Int) + 1) = ((i + 1 : Nat) : Int) := by rw [wrap_sm (by omega) (by omega)]; rfl
    obtain ⟨b, hb⟩ := ih (i + 1) (wrap64 (x + (wrap64 (1 + ((rd_L1 g (i : Int)).length : Int))))) (by omega)
    refine ⟨b, fun k hk => ?_⟩
    obtain ⟨k, rfl⟩ : ∃ m, k = m + 1 := ⟨k - 1, by omega⟩
    simp only [heliastlaw12_heavy.l0]
    rw [if_pos (by omega), if_pos (by omega), hw]
    exact hb k (by omega)
theorem GraphAsks_any (g : List (List Int)) (l rank : List Int) (n : Int) (c d : List Int) (a6 : Int) (hg : g.length ≤ 5864062014805) (hr : ∀ n, (g.getD n []).length ≤ 17592186044416) (hl : l.length < 4611686018427387904) :
    ∃ k, heliastlaw12_GraphAsks.f k g l rank n c d a6 = some true := by
  obtain ⟨b, hb⟩ := gA_heavy_l0 g hg g.length 0 0 (by omega)
  have hgc := g12_graph_small c
  have hGc := g12_graph_good c
  have hrc : ∀ n, ((g12_graph c).getD n []).length ≤ 17592186044416 := fun n => by have := back_rows hGc n; omega
  obtain ⟨L1, hL1, s1⟩ := g12_Some d
  obtain ⟨L2, hL2, s2⟩ := g12_Some c
  obtain ⟨k1, h1⟩ := gA_Right g hg hr
  obtain ⟨k2, h2⟩ := gA_RightR g hg hr
  obtain ⟨k3, h3⟩ := gA_Right (g12_graph c) (by omega) hrc
  obtain ⟨k4, h4⟩ := gA_asks (g12_graph c) l rank n hGc (by omega) hl
  obtain ⟨k5, h5⟩ := gA_asks (g12_graph c) L1 L2 (wrap64 (Int.tmod a6 26)) hGc (by omega) (by omega)
  obtain ⟨k6, h6⟩ : ∃ k6, BackG g → ∀ k, k6 ≤ k → heliastlaw12_asks.f k g l rank n = some true := by
    by_cases hG : BackG g
    · obtain ⟨k6, h6⟩ := gA_asks g l rank n hG hg hl; exact ⟨k6, fun _ => h6⟩
    · exact ⟨0, fun h => absurd h hG⟩
  have hj : ∀ k, k1 + k2 + k3 + k4 + k5 + k6 + 2000 ≤ k → heliastlaw12_GraphAsks.j0 (k + 1) g l rank n c d a6 false = some true := by
    intro k hk
    simp only [heliastlaw12_GraphAsks.j0]
    rw [if_neg (by simp), g12_Graph c k (by omega), Option.bind_some, h1 k (by omega), Option.bind_some, h2 k (by omega), Option.bind_some, if_pos (by simp), h3 k (by omega), Option.bind_some, rightFromA_good.2 hGc, if_pos rfl,
      h4 k (by omega), Option.bind_some, if_pos rfl, s1 k (by omega), Option.bind_some, s2 k (by omega), Option.bind_some, h5 k (by omega), Option.bind_some, if_pos rfl]
    cases hR : rightFromA 0 g with
    | true => rw [Option.bind_some, if_pos rfl, h6 (rightFromA_good.1 hR) k (by omega)]; rfl
    | false => rw [Option.bind_some, if_neg (by simp)]
  have hk : ∀ k, 2000 ≤ k → heliastlaw12_GraphAsks.j0 (k + 1) g l rank n c d a6 true = some true := by
    intro k hk
    simp only [heliastlaw12_GraphAsks.j0]
    rw [if_pos trivial, g12_known k (by omega)]; rfl
  refine ⟨k1 + k2 + k3 + k4 + k5 + k6 + 2000 + g.length + 1, ?_⟩
  unfold heliastlaw12_GraphAsks.f heliastlaw12_heavy.f
  have hb' := hb (k1 + k2 + k3 + k4 + k5 + k6 + 2000 + g.length + 1) (by omega)
  rw [Int.natCast_zero] at hb'
  rw [hb', Option.bind_some]
  by_cases hbt : b = true
  · rw [if_pos hbt]; exact hk _ (by omega)
  · rw [if_neg hbt]
    split
    · exact hk _ (by omega)
    · rw [g12_known _ (by omega), Option.bind_some]
      exact hj _ (by omega)

end Go.Proofs.Ytmmalieacakcbaa.S
