/- Words of this session's own: graphs whose edges go back: what follows of reach and order, plain. -/
import Derived.Test.YtmdjknkhjimgeaaHeG
import Derived.Test.YtmdjknkhjimgeaaHeL
import Derived.RowKit
set_option linter.unusedVariables false
set_option linter.unusedSimpArgs false
namespace Go.Proofs.He
open Go.RowKit
theorem wrap_sm {i : Int} (h0 : -9223372036854775808 ≤ i) (h : i ≤ 9223372036854775807) : wrap64 i = i := by unfold wrap64; omega
theorem u8_bd {c : List Int} (h : ∀ x ∈ c, (Go.Lit.int .u8 x).wf = true) : ∀ x ∈ c, 0 ≤ x ∧ x ≤ 255 := by
  intro x hx
  have := h x hx
  simp [Go.Lit.wf, Go.IntKind.min, Go.IntKind.max, Go.IntKind.signed, Go.IntKind.bits] at this
  omega
/-- i, i + 1, .., d of them -/
def seg (i d : Nat) : List Int := (List.range' i d).map Int.ofNat
theorem seg_succ (i d : Nat) : seg i (d + 1) = (i : Int) :: seg (i + 1) d := by simp [seg, List.range'_succ]
theorem seg_zero (i : Nat) : seg i 0 = [] := rfl
theorem mem_seg {i d : Nat} {x : Int} : x ∈ seg i d ↔ (i : Int) ≤ x ∧ x < (i : Int) + d := by
  unfold seg
  rw [List.mem_map]
  constructor
  · rintro ⟨n, h, rfl⟩
    rw [List.mem_range'_1] at h
    show (i : Int) ≤ (n : Int) ∧ (n : Int) < _
    omega
  · rintro ⟨h1, h2⟩
    exact ⟨x.toNat, by rw [List.mem_range'_1]; omega, by show (x.toNat : Int) = x; omega⟩
theorem seg_rises (i d : Nat) : (seg i d).Pairwise (· < ·) := by
  unfold seg
  rw [List.pairwise_map]
  exact (List.pairwise_lt_range' (s := i) (n := d)).imp (fun h => Int.ofNat_lt.2 h)
theorem seg_length (i d : Nat) : (seg i d).length = d := by simp [seg]
theorem pickL_seg (g : List (List Int)) (p : Int → Bool) : pickL g p = (seg 0 g.length).filter p := by
  unfold pickL seg; rw [List.range_eq_range']
theorem rises_nodup {l : List Int} (h : l.Pairwise (· < ·)) : l.Nodup := h.imp (fun h e => by omega)
/-- each row rises, and goes back -/
structure BackG (g : List (List Int)) : Prop where
  rise : ∀ n, n < g.length → (g.getD n []).Pairwise (· < ·)
  back : ∀ n, n < g.length → ∀ x ∈ g.getD n [], 0 ≤ x ∧ x < n
theorem BackG.goes {g : List (List Int)} (h : BackG g) {a b : Int} (h0 : 0 ≤ a) (h1 : a < g.length) (hb : b ∈ g.getD a.toNat []) : goesTo g a b := by
  have := h.back a.toNat (by omega) b hb
  exact ⟨h0, hb, this.1, by omega⟩
theorem Rch.mono {g : List (List Int)} {l l' : List Int} (hs : ∀ x ∈ l, 0 ≤ x → x < g.length → Rch g l' x) {x : Int} (h : Rch g l x) : Rch g l' x := by
  induction h with
  | base h1 h2 h3 => exact hs _ h1 h2 h3
  | step h1 h2 ih => exact .step ih h2
theorem Rch_append {g : List (List Int)} {a b : List Int} {x : Int} : Rch g (a ++ b) x ↔ Rch g a x ∨ Rch g b x := by
  constructor
  · intro h
    induction h with
    | base h1 h2 h3 =>
      rcases List.mem_append.1 h1 with h | h
      · exact .inl (.base h h2 h3)
      · exact .inr (.base h h2 h3)
    | step h1 h2 ih =>
      rcases ih with h | h
      · exact .inl (.step h h2)
      · exact .inr (.step h h2)
  · rintro (h | h)
    · exact h.mono (fun x h1 h2 h3 => .base (List.mem_append_left _ h1) h2 h3)
    · exact h.mono (fun x h1 h2 h3 => .base (List.mem_append_right _ h1) h2 h3)
theorem Rch_idem {g : List (List Int)} {l l' : List Int} (h : ∀ x, x ∈ l' ↔ Rch g l x) {x : Int} : Rch g l' x ↔ Rch g l x :=
  ⟨fun hx => by
    induction hx with
    | base h1 h2 h3 => exact (h _).1 h1
    | step h1 h2 ih => exact .step ih h2, fun hx => .base ((h x).2 hx) hx.valid.1 hx.valid.2⟩
/-- what one reaches is itself, and what those reach that it goes to -/
theorem Rch_first {g : List (List Int)} (hg : BackG g) {l : List Int} {x : Int} : Rch g l x ↔ (x ∈ l ∧ 0 ≤ x ∧ x < g.length) ∨ ∃ y ∈ l, (0 ≤ y ∧ y < g.length) ∧ Rch g (g.getD y.toNat []) x := by
  constructor
  · intro h
    induction h with
    | base h1 h2 h3 => exact .inl ⟨h1, h2, h3⟩
    | @step a b h1 h2 ih =>
      rcases ih with ⟨ha, h3, h4⟩ | ⟨y, hy, hv, hr⟩
      · exact .inr ⟨a, ha, ⟨h3, h4⟩, .base h2.2.1 h2.2.2.1 (by have := h2.2.2.2; omega)⟩
      · exact .inr ⟨y, hy, hv, .step hr h2⟩
  · rintro (⟨h1, h2, h3⟩ | ⟨y, hy, hv, hr⟩)
    · exact .base h1 h2 h3
    · exact hr.mono (fun z h1 h2 h3 => .step (.base hy hv.1 hv.2) (hg.goes hv.1 hv.2 h1))
theorem Rch_below {g : List (List Int)} (hg : BackG g) {n : Int} (h0 : 0 ≤ n) (h1 : n < g.length) {x : Int} (h : Rch g (g.getD n.toNat []) x) : x < n := by
  induction h with
  | base h2 _ _ => have := hg.back n.toNat (by omega) _ h2; omega
  | step _ h2 ih => have := h2.2.2.2; omega
theorem pastL_eq {g : List (List Int)} {n : Int} (h0 : 0 ≤ n) (h1 : n < g.length) : pastL g n = rchL g (g.getD n.toNat []) := by
  unfold pastL; rw [if_neg (by omega), if_neg (by omega)]
/-! the order -/
theorem ordGo_perm {g : List (List Int)} (hg : BackG g) (rank : List Int) : ∀ (f : Nat) (W : List Int), W.Nodup → (∀ x ∈ W, 0 ≤ x ∧ x < g.length) → W.length ≤ f →
    (∀ x, x ∈ ordGo g rank f W ↔ x ∈ W) ∧ (ordGo g rank f W).length = W.length ∧ (ordGo g rank f W).Pairwise (fun a b => ¬ Rch g (g.getD a.toNat []) b ∧ a ≠ b)
  | 0, W, _, _, hl => by
    have : W = [] := List.eq_nil_of_length_eq_zero (by omega)
    subst this
    simp [ordGo]
  | f + 1, W, hn, hv, hl => by
    by_cases hW : W = []
    · subst hW; simp [ordGo]
    · -- the least of W is free
      have hmin : ∃ m ∈ W, ∀ x ∈ W, m ≤ x := by
        clear hl hn hv
        induction W with
        | nil => exact absurd rfl hW
        | cons a l ih =>
          by_cases hl : l = []
          · subst hl; exact ⟨a, by simp, by simp⟩
          · obtain ⟨m, hm, hle⟩ := ih hl
            by_cases h : a ≤ m
            · exact ⟨a, by simp, fun x hx => by
                rcases List.mem_cons.1 hx with rfl | hx
                · omega
                · have := hle x hx; omega⟩
            · exact ⟨m, by simp [hm], fun x hx => by
                rcases List.mem_cons.1 hx with rfl | hx
                · omega
                · exact hle x hx⟩
      obtain ⟨m, hm, hle⟩ := hmin
      have hfree : freeIn g W m = true := by
        unfold freeIn
        simp only [Bool.not_eq_true', List.any_eq_false]
        intro k hk hr
        have := Rch_below hg (hv m hm).1 (hv m hm).2 (rchB_iff.1 hr)
        have := hle k hk
        omega
      have hmF : m ∈ W.filter (freeIn g W) := List.mem_filter.2 ⟨hm, hfree⟩
      have hgo : ordGo g rank (f + 1) W = (match W.filter (freeIn g W) with | [] => [] | x :: l => leastN rank x l :: ordGo g rank f (W.filter fun k => decide (k ≠ leastN rank x l))) := rfl
      cases hF : W.filter (freeIn g W) with
      | nil => rw [hF] at hmF; cases hmF
      | cons x l =>
        rw [hF] at hgo
        change _ = leastN rank x l :: ordGo g rank f (W.filter fun k => decide (k ≠ leastN rank x l)) at hgo
        have hn0 := (leastN_spec rank l x).1
        rw [← hF] at hn0
        generalize leastN rank x l = n at hgo hn0
        obtain ⟨hnW, hnf⟩ := List.mem_filter.1 hn0
        have hsub : (W.filter fun k => decide (k ≠ n)).length + 1 ≤ W.length := by
          have h1 := List.length_filter_lt_length_iff_exists (p := fun k => decide (k ≠ n)) (l := W)
          have := h1.2 ⟨n, hnW, by simp⟩
          omega
        have hsub2 : W.length ≤ (W.filter fun k => decide (k ≠ n)).length + 1 := by
          have h2 := hn.length_le_of_subset (l₂ := n :: W.filter fun k => decide (k ≠ n)) (fun z hz => by
            by_cases e : z = n
            · simp [e]
            · exact List.mem_cons_of_mem _ (List.mem_filter.2 ⟨hz, by simpa using e⟩))
          simpa using h2
        obtain ⟨i1, i2, i3⟩ := ordGo_perm hg rank f (W.filter fun k => decide (k ≠ n)) (hn.sublist List.filter_sublist) (fun x hx => hv x (List.mem_filter.1 hx).1) (by omega)
        rw [hgo]
        refine ⟨fun z => ?_, by rw [List.length_cons, i2]; omega, List.pairwise_cons.2 ⟨fun z hz => ?_, i3⟩⟩
        · rw [List.mem_cons, i1, List.mem_filter]
          by_cases e : z = n
          · subst e; simp [hnW]
          · simp [e]
        · obtain ⟨hzW, hzn⟩ := List.mem_filter.1 ((i1 z).1 hz)
          unfold freeIn at hnf
          simp only [Bool.not_eq_true', List.any_eq_false] at hnf
          exact ⟨fun hr => hnf z hzW (rchB_iff.2 hr), fun e => by simp [e] at hzn⟩
/-- where ranks say nothing against it, all go as they lie -/
theorem ordGo_natural {g : List (List Int)} (hg : BackG g) {rank : List Int} (hr : ∀ x y : Int, 0 ≤ x → x < g.length → 0 ≤ y → y < g.length → (lessN rank x y = true ↔ x < y)) : ∀ (d m f : Nat), m + d = g.length → d ≤ f → ordGo g rank f (seg m d) = seg m d
  | 0, m, f, _, _ => by cases f <;> rfl
  | d + 1, m, 0, _, h => by omega
  | d + 1, m, f + 1, hm, hf => by
    have hmem : (m : Int) ∈ seg m (d + 1) := mem_seg.2 ⟨by omega, by omega⟩
    have hfree : freeIn g (seg m (d + 1)) m = true := by
      unfold freeIn
      simp only [Bool.not_eq_true', List.any_eq_false]
      intro k hk hr'
      have := Rch_below hg (n := m) (by omega) (by omega) (rchB_iff.1 hr')
      have := (mem_seg.1 hk).1
      omega
    have hmF : (m : Int) ∈ (seg m (d + 1)).filter (freeIn g (seg m (d + 1))) := List.mem_filter.2 ⟨hmem, hfree⟩
    have hgo : ordGo g rank (f + 1) (seg m (d + 1)) = (match (seg m (d + 1)).filter (freeIn g (seg m (d + 1))) with | [] => [] | x :: l => leastN rank x l :: ordGo g rank f ((seg m (d + 1)).filter fun k => decide (k ≠ leastN rank x l))) := rfl
    cases hF : (seg m (d + 1)).filter (freeIn g (seg m (d + 1))) with
    | nil => rw [hF] at hmF; cases hmF
    | cons x l =>
      rw [hF] at hgo hmF
      have hle : leastN rank x l = m := by
        obtain ⟨h1, h2⟩ := leastN_spec rank l x
        refine least_unique h1 h2 hmF (fun z hz => ?_)
        rw [← hF] at hz
        have hz' := mem_seg.1 (List.mem_filter.1 hz).1
        cases hb : lessN rank z m with
        | false => rfl
        | true => have := (hr z m (by omega) (by omega) (by omega) (by omega)).1 hb; omega
      change _ = leastN rank x l :: ordGo g rank f ((seg m (d + 1)).filter fun k => decide (k ≠ leastN rank x l)) at hgo
      rw [hgo, hle]
      have hrest : (seg m (d + 1)).filter (fun k => decide (k ≠ (m : Int))) = seg (m + 1) d := by
        rw [seg_succ, List.filter_cons_of_neg (by simp)]
        refine List.filter_eq_self.2 (fun z hz => ?_)
        have := (mem_seg.1 hz).1
        simp; omega
      rw [hrest, ordGo_natural hg hr d (m + 1) f (by omega) (by omega), ← seg_succ]
/-! the longest way -/
theorem longL_at {g : List (List Int)} {n : Nat} (h : n < g.length) : longL g n = rowMax (longT g n) n 0 (g.getD n []) := by
  unfold longL
  rw [if_neg (by omega), if_neg (by omega), Int.toNat_natCast, longT, List.getD_eq_getElem?_getD, List.getElem?_append_right (by rw [longT_length]; exact Nat.le_refl _), longT_length, Nat.sub_self]
  rfl
theorem longT_at {g : List (List Int)} {n i : Nat} (hn : n ≤ g.length) (h : i < n) : (longT g n).getD i 0 = longL g i := by
  unfold longL
  rw [if_neg (by omega), if_neg (by omega), Int.toNat_natCast]
  obtain ⟨d, rfl⟩ : ∃ d, n = (i + 1) + d := ⟨n - (i + 1), by omega⟩
  exact longT_prefix g (i + 1) d i (by omega)
theorem rowMax_long {g : List (List Int)} (hg : BackG g) {n : Nat} (hn : n < g.length) : ∀ (l : List Int), (∀ x ∈ l, x ∈ g.getD n []) → ∀ m : Int, rowMax (longT g n) n m l = l.foldl (fun m x => mxL m (longL g x + 1)) m
  | [], _, m => rfl
  | x :: l, h, m => by
    have hb := hg.back n hn x (h x (by simp))
    rw [rowMax, if_pos hb, List.foldl_cons, rowMax_long hg hn l (fun y hy => h y (List.mem_cons_of_mem _ hy))]
    have : (longT g n).getD x.toNat 0 = longL g x := by
      rw [longT_at (by omega) (by omega), show ((x.toNat : Nat) : Int) = x by omega]
    rw [this, Int.add_comm]
theorem longL_bd (g : List (List Int)) (n : Int) : 0 ≤ longL g n ∧ longL g n ≤ g.length := by
  unfold longL
  split
  · omega
  · split
    · omega
    · have := longT_bd g (n.toNat + 1) n.toNat; omega
end Go.Proofs.He
