/- Words of this session's own: the longest way, plain. -/
set_option linter.unusedVariables false
set_option linter.unusedSimpArgs false
namespace Go.Proofs.He
def mxL (a b : Int) : Int := if a < b then b else a
/-- the longest way over the first edges of a row, by a table of those before -/
def rowMax (t : List Int) (k : Int) : Int → List Int → Int
  | m, [] => m
  | m, x :: l => rowMax t k (if 0 ≤ x ∧ x < k then mxL m (1 + t.getD x.toNat 0) else m) l
def longT (g : List (List Int)) : Nat → List Int
  | 0 => []
  | k + 1 => longT g k ++ [rowMax (longT g k) k 0 (g.getD k [])]
def longL (g : List (List Int)) (n : Int) : Int := if n < 0 then 0 else if n ≥ g.length then 0 else (longT g (n.toNat + 1)).getD n.toNat 0
theorem longT_length (g : List (List Int)) : ∀ k, (longT g k).length = k
  | 0 => rfl
  | k + 1 => by rw [longT, List.length_append, longT_length g k]; rfl
theorem rowMax_append (t : List Int) (k : Int) (y : Int) : ∀ (l : List Int) (m : Int), rowMax t k m (l ++ [y]) = if 0 ≤ y ∧ y < k then mxL (rowMax t k m l) (1 + t.getD y.toNat 0) else rowMax t k m l
  | [], m => rfl
  | x :: l, m => by rw [List.cons_append, rowMax, rowMax_append t k y l]; rfl
theorem rowMax_bd {t : List Int} {k : Int} (hb : ∀ i : Nat, 0 ≤ t.getD i 0 ∧ t.getD i 0 ≤ i) : ∀ (l : List Int) (m : Int), 0 ≤ m → m ≤ k → 0 ≤ rowMax t k m l ∧ rowMax t k m l ≤ k
  | [], m, h0, h1 => ⟨h0, h1⟩
  | x :: l, m, h0, h1 => by
    rw [rowMax]
    have := hb x.toNat
    split
    · refine rowMax_bd hb l _ ?_ ?_ <;> (unfold mxL; split <;> omega)
    · exact rowMax_bd hb l m h0 h1
theorem longT_bd (g : List (List Int)) : ∀ k (i : Nat), 0 ≤ (longT g k).getD i 0 ∧ (longT g k).getD i 0 ≤ i
  | 0, i => by simp [longT]
  | k + 1, i => by
    rw [longT]
    rcases Nat.lt_trichotomy i k with h | h | h
    · rw [List.getD_eq_getElem?_getD, List.getElem?_append_left (by rw [longT_length]; exact h), ← List.getD_eq_getElem?_getD]
      exact longT_bd g k i
    · subst h
      have hb := rowMax_bd (k := (i : Int)) (longT_bd g i) (g.getD i []) 0 (by omega) (by omega)
      rw [List.getD_eq_getElem?_getD, List.getElem?_append_right (by rw [longT_length]; exact Nat.le_refl _), longT_length, Nat.sub_self]
      exact hb
    · rw [List.getD_eq_getElem?_getD, List.getElem?_eq_none (by rw [List.length_append, longT_length]; simp; omega)]
      simp
theorem longT_prefix (g : List (List Int)) (k : Nat) : ∀ d (i : Nat), i < k → (longT g (k + d)).getD i 0 = (longT g k).getD i 0
  | 0, i, _ => rfl
  | d + 1, i, h => by
    show (longT g (k + d) ++ _).getD i 0 = _
    rw [List.getD_eq_getElem?_getD, List.getElem?_append_left (by rw [longT_length]; omega), ← List.getD_eq_getElem?_getD]
    exact longT_prefix g k d i h
end Go.Proofs.He
