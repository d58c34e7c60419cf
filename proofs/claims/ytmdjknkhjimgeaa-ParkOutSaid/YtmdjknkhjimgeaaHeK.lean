/- Words of this session's own: rows of elements of some cells each that are struck and cleared (slices.DeleteFunc, slices.Delete at structs); rows of rows that are read. -/
import Derived.Test.YtmdjknkhjimgeaaHeD
set_option linter.unusedVariables false
set_option linter.unusedSimpArgs false
set_option linter.unusedSectionVars false
namespace Go.Proofs.He
open Go Go.RowKit Go.Sort Go.Lib Go.Proofs.YtmdjknkhjimgeaaW.PrintWords
/-- A row of elements of sz cells at a block. -/
def RowK (w : World) (e sz g n cap : Nat) (xs : List Value) : Prop := ∃ cur, w.heap[g]? = some (.cells cur e (0, 0)) ∧ n ≤ cap ∧ cap ≤ maxLen ∧ cur.size = cap * sz ∧ xs.length = n * sz ∧ cur.toList.take (n * sz) = xs
section
variable {e base sz g n cap : Nat} {w w1 : World} {xs : List Value}
theorem RowK.of (h : w.ownsRow base e sz (.slice (some ⟨g, 0, none⟩) n cap) n xs) : RowK w e sz g n cap xs ∧ base ≤ g := by
  obtain ⟨hl, h⟩ := h
  rcases h with ⟨h, _⟩ | ⟨g', cap', cur, hv, hb, hh, hc, hm, hs, ht⟩
  · cases h
  · injection hv with ha hn hc'
    injection ha with ha
    injection ha with ha
    subst ha; subst hc'
    exact ⟨⟨cur, hh, hc, hm, hs, hl, ht⟩, hb⟩
theorem RowK.put (h : RowK w e sz g n cap xs) (hb : base ≤ g) : w.ownsRow base e sz (.slice (some ⟨g, 0, none⟩) n cap) n xs := by
  obtain ⟨cur, hh, hc, hm, hs, hl, ht⟩ := h
  exact ⟨hl, .inr ⟨g, cap, cur, rfl, hb, hh, hc, hm, hs, ht⟩⟩
theorem RowK.lt (h : RowK w e sz g n cap xs) : g < w.heap.size := by obtain ⟨cur, hh, _⟩ := h; exact (Array.getElem?_eq_some_iff.1 hh).1
theorem RowK.room (h : RowK w e sz g n cap xs) : n ≤ cap := by obtain ⟨_, _, h, _⟩ := h; exact h
theorem RowK.at (h : RowK w e sz g n cap xs) (j : Nat) (hj : j < n * sz) : (w.cell? ⟨g, j, none⟩).isSome = true ∧ w.frozen? ⟨g, j, none⟩ = false ∧ w.cell? ⟨g, j, none⟩ = xs[j]? := by
  obtain ⟨cur, hh, hc, hm, hs, hl, ht⟩ := h
  have hget : cur[j]? = xs[j]? := by
    rw [← Array.getElem?_toList, ← List.getElem?_take_of_lt hj, ht]
  have hx : xs[j]? = some xs[j] := List.getElem?_eq_getElem (by omega)
  rw [hx] at hget
  refine ⟨?_, ?_, ?_⟩
  · simp [World.cell?, hh, hget]
  · simp [World.frozen?, hh]
  · simp [World.cell?, hh, hget, hx]
theorem RowK.move (h : RowK w e sz g n cap xs) (hb : w1.heap[g]? = w.heap[g]?) : RowK w1 e sz g n cap xs := by
  obtain ⟨cur, hh, r⟩ := h; exact ⟨cur, by rw [hb, hh], r⟩
theorem RowK.strike (h : RowK w e sz g n cap xs) (i : Nat) (hi : i ≤ n) (vs : List Value) (hv : vs.length = (n - i) * sz) : RowK (w.setCells g (i * sz) vs) e sz g i cap (xs.take (i * sz)) := by
  obtain ⟨cur, hh, hc, hm, hs, hl, ht⟩ := h
  have h1 : i * sz ≤ n * sz := Nat.mul_le_mul_right _ hi
  have h2 : n * sz ≤ cap * sz := Nat.mul_le_mul_right _ hc
  have h3 : i * sz + (n - i) * sz = n * sz := by rw [← Nat.add_mul]; congr 1; omega
  obtain ⟨cur', g1, g2, g3⟩ := setCells_row vs (i * sz) w cur hh (by omega)
  refine ⟨cur', g1, by omega, hm, by omega, by rw [List.length_take]; omega, ?_⟩
  rw [g3, List.append_assoc, List.take_append_of_le_length (by rw [List.length_take, Array.length_toList]; omega), List.take_take, ← ht, List.take_take, Nat.min_self, Nat.min_eq_left h1]
end
theorem mem_zeroCells {zc : Array Value} {n : Nat} {u : Value} (h : u ∈ (Builtin.zeroCells zc n).toList) : u ∈ zc.toList := by
  simp only [Builtin.zeroCells, Array.toList_map, List.mem_map, Array.toList_range, List.mem_range] at h
  obtain ⟨i, hi, rfl⟩ := h
  have hp : 0 < zc.size := by
    rcases Nat.eq_zero_or_pos zc.size with h0 | h0
    · rw [h0] at hi; omega
    · exact h0
  rw [getElem!_pos zc (i % zc.size) (Nat.mod_lt _ hp)]
  exact Array.getElem_mem_toList _
/-- 'clear(s)', s a slice of n > 0 elements of some cells each. -/
theorem run_clear_rows {P : Program} (w : World) (t e ty : TypeId) (z : Value) (ht : P.underlying t = some (.slice e)) (hv : ∀ w, (zeroValue e).run P w = .ok z w) (h1 : ∀ u ∈ z.cells.toList, u.oneCell' = true) (b o n c : Nat) (hn : 0 < n)
    (hc : ∀ j, j < n * z.cells.size → (w.cell? ⟨b, o + j, none⟩).isSome = true) (hf : ∀ j, j < n * z.cells.size → w.frozen? ⟨b, o + j, none⟩ = false) :
    (Builtin.clear_ #[t] ty #[.slice (some ⟨b, o, none⟩) n c]).run P w = .ok (.tuple #[]) (w.setCells b o (Builtin.zeroCells z.cells n).toList) := by
  have hl : (Builtin.zeroCells z.cells n).toList.length = n * z.cells.size := by rw [Array.length_toList, size_zeroCells]
  have hst := run_storeCells_cells (P := P) b o (Builtin.zeroCells z.cells n).toList 0 w (by rw [hl]; simpa using hc) (by rw [hl]; simpa using hf) (fun v hv' => h1 v (mem_zeroCells hv'))
  simp only [Nat.add_zero] at hst
  obtain ⟨m, rfl⟩ : ∃ m, n = m + 1 := ⟨n - 1, by omega⟩
  simp [Builtin.clear_, run_underlying ht, hv, hst]
/-- Row i of a slice of slices that is read. -/
theorem at_rows {α : Type} {κ : Kd α} {w : World} {e : Nat} {A : Option Addr} {n : Nat} {xs : List (List α)} (h : Kd.C (Kd.slice e κ) w A n xs) (i : Int) (h0 : 0 ≤ i) (h1 : i < n) :
    ∃ ad A0 c0, A = some ad ∧ w.cell? (ad.add i.toNat) = some (.slice A0 (xs.getD i.toNat []).length c0) ∧ (xs.getD i.toNat []).length ≤ c0 ∧ κ.C w A0 (xs.getD i.toNat []).length (xs.getD i.toNat []) := by
  obtain ⟨ad, c, e, _, hK, hc0⟩ := Kd.C_get h ([] : List α) i h0 h1
  have hc : ∀ j u, c[j]? = some u → w.cell? (ad.add (i.toNat * 1 + j)) = some u := hc0
  obtain ⟨A0, c0, rfl, l0, g0⟩ := hK
  exact ⟨ad, A0, c0, e, by have hq := hc 0 _ rfl; rwa [Nat.mul_one, Nat.add_zero] at hq, l0, g0⟩
theorem mem_rows {α : Type} {xs : List (List α)} {i : Nat} {z : α} (h : z ∈ xs.getD i []) : z ∈ xs.flatten := by
  rw [List.getD_eq_getElem?_getD] at h
  by_cases hn : i < xs.length
  · rw [List.getElem?_eq_getElem hn, Option.getD_some] at h
    exact List.mem_flatten.2 ⟨_, List.getElem_mem hn, h⟩
  · rw [List.getElem?_eq_none (by omega)] at h; cases h
/-- What has been read behind i rows and j elements of the next one. -/
def readTo {α : Type} (xs : List (List α)) (i j : Nat) : List α := (xs.take i).flatten ++ (xs.getD i []).take j
theorem readTo_zero {α : Type} (xs : List (List α)) (i : Nat) : readTo xs i 0 = (xs.take i).flatten := by simp [readTo]
theorem readTo_row {α : Type} {xs : List (List α)} {i : Nat} (hi : i < xs.length) : readTo xs i (xs.getD i []).length = (xs.take (i + 1)).flatten := by
  unfold readTo
  rw [List.take_length, List.take_succ_eq_append_getElem hi, List.flatten_append]
  simp [List.getD_eq_getElem?_getD, List.getElem?_eq_getElem hi]
theorem readTo_succ {α : Type} {xs : List (List α)} {i j : Nat} (hj : j < (xs.getD i []).length) : readTo xs i (j + 1) = readTo xs i j ++ [(xs.getD i [])[j]] := by
  unfold readTo
  rw [List.take_succ_eq_append_getElem hj, List.append_assoc]
theorem readTo_length {α : Type} {xs : List (List α)} (i j : Nat) : (readTo xs i j).length ≤ xs.flatten.length := by
  unfold readTo
  by_cases hi : i < xs.length
  · have h : xs = xs.take i ++ xs[i] :: xs.drop (i + 1) := by rw [← List.drop_eq_getElem_cons hi, List.take_append_drop]
    have h2 : xs.flatten = (xs.take i).flatten ++ (xs[i] ++ (xs.drop (i + 1)).flatten) := by
      conv => lhs; rw [h]
      rw [List.flatten_append, List.flatten_cons]
    rw [h2]
    simp only [List.length_append, List.length_take, List.getD_eq_getElem?_getD, List.getElem?_eq_getElem hi, Option.getD_some]
    omega
  · rw [List.getD_eq_getElem?_getD, List.getElem?_eq_none (by omega), List.take_of_length_le (by omega)]
    simp
/-- A literal of slices, as rows that are read. -/
theorem C_lit_rows {α : Type} {κ : Kd α} {W : World} {e g : Nat} {t : TypeId} (R : List (Option Addr × Nat × List α)) (hg : W.heap[g]? = some (.cells (R.map fun q => Value.slice q.1 q.2.2.length q.2.1).toArray t (0, 0)))
    (hR : ∀ q ∈ R, q.2.2.length ≤ q.2.1 ∧ κ.C W q.1 q.2.2.length q.2.2) (hm : R.length ≤ 9223372036854775807) : Kd.C (Kd.slice e κ) W (some ⟨g, 0, none⟩) (R.map (·.2.2)).length (R.map (·.2.2)) := by
  refine ⟨rfl, by simpa using hm, fun _ => ⟨_, rfl, fun j p hp => ?_⟩⟩
  rw [List.getElem?_map] at hp
  obtain ⟨q, hq, rfl⟩ := Option.map_eq_some_iff.1 hp
  obtain ⟨h1, h2⟩ := hR q (List.mem_of_getElem? hq)
  refine ⟨[.slice q.1 q.2.2.length q.2.1], rfl, ⟨q.1, q.2.1, rfl, h1, h2⟩, fun i u hu => ?_⟩
  have hi : i = 0 := by
    have := (List.getElem?_eq_some_iff.1 hu).1
    simpa using this
  subst hi
  have hj := (List.getElem?_eq_some_iff.1 hq).1
  have hq2 : R[j] = q := (List.getElem?_eq_some_iff.1 hq).2
  show W.cell? ((⟨g, 0, none⟩ : Addr).add (j * 1 + 0)) = some u
  rw [add_plain, blk_cell hg]
  simp at hu
  subst hu
  simp [hj, hq2]
end Go.Proofs.He
