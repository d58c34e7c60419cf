/- Words of this session's own: graphs whose edges go back, plain: what is reached, and in which order nodes go. -/
set_option linter.unusedVariables false
set_option linter.unusedSimpArgs false
namespace Go.Proofs.He
/-- a goes to b -/
def goesTo (g : List (List Int)) (a b : Int) : Prop := 0 ≤ a ∧ b ∈ g.getD a.toNat [] ∧ 0 ≤ b ∧ b < a
inductive Rch (g : List (List Int)) (l : List Int) : Int → Prop
  | base {x : Int} : x ∈ l → 0 ≤ x → x < g.length → Rch g l x
  | step {a b : Int} : Rch g l a → goesTo g a b → Rch g l b
theorem Rch.valid {g : List (List Int)} {l : List Int} {x : Int} (h : Rch g l x) : 0 ≤ x ∧ x < g.length := by
  induction h with
  | base _ h1 h2 => exact ⟨h1, h2⟩
  | step _ h ih => exact ⟨h.2.2.1, by have := h.2.2.2; omega⟩
def okN (g : List (List Int)) (x : Int) : Bool := decide (0 ≤ x) && decide (x < g.length)
theorem okN_iff {g : List (List Int)} {x : Int} : okN g x = true ↔ 0 ≤ x ∧ x < g.length := by simp [okN]
def down (g : List (List Int)) : Nat → List Int → List Int
  | 0, S => S
  | n + 1, S => down g n (if (n : Int) ∈ S then S ++ (g.getD n []).filter (fun b => decide (0 ≤ b) && decide (b < (n : Int))) else S)
theorem down_sub (g : List (List Int)) : ∀ (n : Nat) (S : List Int) (x : Int), x ∈ S → x ∈ down g n S
  | 0, _, _, h => h
  | n + 1, S, x, h => down_sub g n _ x (by split; exact List.mem_append_left _ h; exact h)
theorem down_high (g : List (List Int)) : ∀ (n : Nat) (S : List Int) (x : Int), x ∈ down g n S → (n : Int) ≤ x → x ∈ S
  | 0, _, _, h, _ => h
  | n + 1, S, x, h, hx => by
    have := down_high g n _ x h (by omega)
    split at this
    · rcases List.mem_append.1 this with h | h
      · exact h
      · have := (List.mem_filter.1 h).2; simp at this; omega
    · exact this
theorem down_closed (g : List (List Int)) : ∀ (n : Nat) (S : List Int) (a b : Int), a ∈ down g n S → a < n → goesTo g a b → b ∈ down g n S
  | 0, _, _, _, _, h, h' => by have := h'.1; omega
  | n + 1, S, a, b, ha, hn, h => by
    by_cases e : a = n
    · subst e
      have h1 := down_high g n _ _ ha (by omega)
      have h2 : (n : Int) ∈ S := by
        split at h1
        · assumption
        · exact h1
      refine down_sub g n _ b ?_
      rw [if_pos h2]
      have h3 := h.2.1
      rw [Int.toNat_natCast] at h3
      exact List.mem_append_right _ (List.mem_filter.2 ⟨h3, by simp [h.2.2.1, h.2.2.2]⟩)
    · exact down_closed g n _ a b ha (by omega) h
theorem down_sound (g : List (List Int)) (l : List Int) : ∀ (n : Nat) (S : List Int), (∀ x ∈ S, Rch g l x) → ∀ x ∈ down g n S, Rch g l x
  | 0, _, h => h
  | n + 1, S, h => down_sound g l n _ (fun x hx => by
    split at hx
    · rcases List.mem_append.1 hx with hx | hx
      · exact h x hx
      · obtain ⟨h1, h2⟩ := List.mem_filter.1 hx
        simp at h2
        exact .step (h n ‹_›) ⟨by omega, by rw [Int.toNat_natCast]; exact h1, h2.1, h2.2⟩
    · exact h x hx)
def rchB (g : List (List Int)) (l : List Int) (x : Int) : Bool := decide (x ∈ down g g.length (l.filter (okN g)))
theorem rchB_iff {g : List (List Int)} {l : List Int} {x : Int} : rchB g l x = true ↔ Rch g l x := by
  unfold rchB
  rw [decide_eq_true_eq]
  constructor
  · exact down_sound g l _ _ (fun x hx => by
      obtain ⟨h1, h2⟩ := List.mem_filter.1 hx
      obtain ⟨h3, h4⟩ := okN_iff.1 h2
      exact .base h1 h3 h4) x
  · intro h
    induction h with
    | base h1 h2 h3 => exact down_sub _ _ _ _ (List.mem_filter.2 ⟨h1, okN_iff.2 ⟨h2, h3⟩⟩)
    | step h1 h2 ih => exact down_closed g _ _ _ _ ih h1.valid.2 h2
/-- the nodes of which p holds, rising -/
def pickL (g : List (List Int)) (p : Int → Bool) : List Int := ((List.range g.length).map Int.ofNat).filter p
theorem mem_pickL {g : List (List Int)} {p : Int → Bool} {x : Int} : x ∈ pickL g p ↔ (0 ≤ x ∧ x < g.length) ∧ p x = true := by
  unfold pickL
  rw [List.mem_filter, List.mem_map]
  constructor
  · rintro ⟨⟨n, h1, rfl⟩, h2⟩
    have := List.mem_range.1 h1
    exact ⟨⟨Int.natCast_nonneg n, by show (n : Int) < _; omega⟩, h2⟩
  · rintro ⟨⟨h1, h2⟩, h3⟩
    exact ⟨⟨x.toNat, List.mem_range.2 (by omega), by show (x.toNat : Int) = x; omega⟩, h3⟩
theorem pickL_rises (g : List (List Int)) (p : Int → Bool) : (pickL g p).Pairwise (· < ·) := by
  refine List.Pairwise.filter _ ?_
  rw [List.pairwise_map]
  exact List.pairwise_lt_range.imp (fun h => by show (_ : Int) < _; exact Int.ofNat_lt.2 h)
theorem rises_eq : ∀ {l l' : List Int}, l.Pairwise (· < ·) → l'.Pairwise (· < ·) → (∀ x, x ∈ l ↔ x ∈ l') → l = l'
  | [], [], _, _, _ => rfl
  | [], y :: l', _, _, h => absurd ((h y).2 (List.mem_cons_self ..)) (by simp)
  | x :: l, [], _, _, h => absurd ((h x).1 (List.mem_cons_self ..)) (by simp)
  | x :: l, y :: l', h1, h2, h => by
    obtain ⟨a1, a2⟩ := List.pairwise_cons.1 h1
    obtain ⟨b1, b2⟩ := List.pairwise_cons.1 h2
    have e : x = y := by
      rcases List.mem_cons.1 ((h x).1 (List.mem_cons_self ..)) with e | hx
      · exact e
      · rcases List.mem_cons.1 ((h y).2 (List.mem_cons_self ..)) with e | hy
        · exact e.symm
        · have := b1 x hx; have := a1 y hy; omega
    subst e
    rw [rises_eq a2 b2 (fun z => ?_)]
    constructor
    · intro hz
      rcases List.mem_cons.1 ((h z).1 (List.mem_cons_of_mem _ hz)) with e | hz'
      · have := a1 z hz; omega
      · exact hz'
    · intro hz
      rcases List.mem_cons.1 ((h z).2 (List.mem_cons_of_mem _ hz)) with e | hz'
      · have := b1 z hz; omega
      · exact hz'
/-- a rising list by its members, out of a list with no doubles, sorted -/
theorem sort_rises {l : List Int} (h : l.Nodup) : (l.mergeSort fun x y => decide (x ≤ y)).Pairwise (· < ·) := by
  have h1 := List.pairwise_mergeSort (le := fun x y : Int => decide (x ≤ y)) (fun a b c => by simp; omega) (fun a b => by simp; omega) l
  have h2 : (l.mergeSort fun x y => decide (x ≤ y)).Nodup := (List.mergeSort_perm l _).nodup_iff.2 h
  exact (h1.and h2).imp (fun ⟨a, b⟩ => by simp at a; omega)
theorem sort_pick {g : List (List Int)} {p : Int → Bool} {l : List Int} (h : l.Nodup) (hm : ∀ x, x ∈ l ↔ (0 ≤ x ∧ x < g.length) ∧ p x = true) : (l.mergeSort fun x y => decide (x ≤ y)) = pickL g p :=
  rises_eq (sort_rises h) (pickL_rises g p) (fun x => by rw [mem_pickL, ← hm, (List.mergeSort_perm l _).mem_iff])
def rchL (g : List (List Int)) (l : List Int) : List Int := pickL g (rchB g l)
def setL (g : List (List Int)) (l : List Int) : List Int := pickL g (fun x => decide (x ∈ l))
theorem mem_rchL {g : List (List Int)} {l : List Int} {x : Int} : x ∈ rchL g l ↔ Rch g l x := by
  unfold rchL
  rw [mem_pickL, rchB_iff]
  exact ⟨fun h => h.2, fun h => ⟨h.valid, h⟩⟩
theorem mem_setL {g : List (List Int)} {l : List Int} {x : Int} : x ∈ setL g l ↔ (0 ≤ x ∧ x < g.length) ∧ x ∈ l := by
  unfold setL
  rw [mem_pickL, decide_eq_true_eq]
def pastL (g : List (List Int)) (n : Int) : List Int := if n < 0 then [] else if n ≥ g.length then [] else rchL g (g.getD n.toNat [])
def headL (g : List (List Int)) (l : List Int) : List Int := (setL g l).filter fun x => !((setL g l).any fun n => decide (x ∈ g.getD n.toNat []))
/-! the order -/
def rankAt (rank : List Int) (n : Int) : Int := if n ≥ rank.length then 0 else rank.getD n.toNat 0
def lessN (rank : List Int) (x y : Int) : Bool := decide (rankAt rank x < rankAt rank y) || (decide (rankAt rank x = rankAt rank y) && decide (x < y))
def freeIn (g : List (List Int)) (W : List Int) (n : Int) : Bool := !W.any fun k => rchB g (g.getD n.toNat []) k
def leastN (rank : List Int) : Int → List Int → Int
  | m, [] => m
  | m, x :: l => leastN rank (if lessN rank x m = true then x else m) l
theorem lessN_trans {rank : List Int} {x y z : Int} (h1 : lessN rank x y = true) (h2 : lessN rank y z = true) : lessN rank x z = true := by
  simp [lessN] at *; omega
theorem lessN_total {rank : List Int} {x y : Int} (h1 : lessN rank x y = false) (h2 : lessN rank y x = false) : x = y := by
  simp [lessN] at *; omega
theorem lessN_irrefl (rank : List Int) (x : Int) : lessN rank x x = false := by simp [lessN]
theorem leastN_spec (rank : List Int) : ∀ (l : List Int) (m : Int), leastN rank m l ∈ m :: l ∧ ∀ x ∈ m :: l, lessN rank x (leastN rank m l) = false
  | [], m => by simp [leastN, lessN_irrefl]
  | y :: l, m => by
    obtain ⟨h1, h2⟩ := leastN_spec rank l (if lessN rank y m = true then y else m)
    unfold leastN
    have key : ∀ z, lessN rank z (leastN rank (if lessN rank y m = true then y else m) l) = true → (z = m ∨ z = y) → False := by
      intro z hz hzz
      have h3 := h2 _ (List.mem_cons_self ..)
      by_cases hc : lessN rank y m = true
      · rw [if_pos hc] at *
        rcases hzz with rfl | rfl
        · rw [lessN_trans hc hz] at h3; cases h3
        · rw [hz] at h3; cases h3
      · rw [if_neg hc] at *
        rcases hzz with rfl | rfl
        · rw [hz] at h3; cases h3
        · have hc' : lessN rank z m = false := by simpa using hc
          cases hm : lessN rank m z with
          | true => rw [lessN_trans hm hz] at h3; cases h3
          | false => rw [lessN_total hc' hm] at hz; rw [hz] at h3; cases h3
    refine ⟨?_, fun x hx => ?_⟩
    · rcases List.mem_cons.1 h1 with h | h
      · rw [h]; split <;> simp
      · exact List.mem_cons_of_mem _ (List.mem_cons_of_mem _ h)
    · cases hb : lessN rank x (leastN rank (if lessN rank y m = true then y else m) l) with
      | false => rfl
      | true =>
        exfalso
        rcases List.mem_cons.1 hx with rfl | hx
        · exact key _ hb (.inl rfl)
        · rcases List.mem_cons.1 hx with rfl | hx
          · exact key _ hb (.inr rfl)
          · rw [h2 x (List.mem_cons_of_mem _ hx)] at hb; cases hb
/-- the least is one alone -/
theorem least_unique {rank : List Int} {l : List Int} {m m' : Int} (h1 : m ∈ l) (h2 : ∀ x ∈ l, lessN rank x m = false) (h1' : m' ∈ l) (h2' : ∀ x ∈ l, lessN rank x m' = false) : m = m' :=
  lessN_total (h2' m h1) (h2 m' h1')
def ordGo (g : List (List Int)) (rank : List Int) : Nat → List Int → List Int
  | 0, _ => []
  | f + 1, W => match W.filter (freeIn g W) with
    | [] => []
    | x :: l => leastN rank x l :: ordGo g rank f (W.filter fun k => decide (k ≠ leastN rank x l))
def ordL (g : List (List Int)) (l rank : List Int) : List Int := ordGo g rank (setL g l).length (setL g l)
end Go.Proofs.He
