/- Words of this session's own: rows of ints of the call's own that are struck by a predicate (slices.DeleteFunc). -/
import Derived.Test.YtmdjknkhjimgeaaHeS
import Derived.Lib.SlKept
import Derived.Lib.SliceRun
set_option linter.unusedVariables false
set_option linter.unusedSimpArgs false
set_option linter.unusedSectionVars false
namespace Go.Proofs.He
open Go Go.RowKit Go.Sort Go.Lib Go.Proofs.YtmdjknkhjimgeaaW.PrintWords
/-- A row at a block. -/
def RowAt (w : World) (e g n cap : Nat) (xs : List Value) : Prop := ∃ cur, w.heap[g]? = some (.cells cur e (0, 0)) ∧ n ≤ cap ∧ cap ≤ maxLen ∧ cur.size = cap ∧ xs.length = n ∧ cur.toList.take n = xs
theorem RowAt.of {e base g n cap : Nat} {w : World} {xs : List Value} (h : w.ownsRow base e 1 (.slice (some ⟨g, 0, none⟩) n cap) n xs) : RowAt w e g n cap xs ∧ base ≤ g := by
  obtain ⟨hl, h⟩ := h
  rcases h with ⟨h, _⟩ | ⟨g', cap', cur, hv, hb, hh, hc, hm, hs, ht⟩
  · cases h
  · injection hv with ha hn hc'
    injection ha with ha
    injection ha with ha
    subst ha; subst hc'
    exact ⟨⟨cur, hh, hc, hm, by simpa using hs, by simpa using hl, by simpa using ht⟩, hb⟩
theorem RowAt.put {e base g n cap : Nat} {w : World} {xs : List Value} (h : RowAt w e g n cap xs) (hb : base ≤ g) : w.ownsRow base e 1 (.slice (some ⟨g, 0, none⟩) n cap) n xs := by
  obtain ⟨cur, hh, hc, hm, hs, hl, ht⟩ := h
  exact ⟨by simpa using hl, .inr ⟨g, cap, cur, rfl, hb, hh, hc, hm, by simpa using hs, by simpa using ht⟩⟩
theorem RowAt.lt {e g n cap : Nat} {w : World} {xs : List Value} (h : RowAt w e g n cap xs) : g < w.heap.size := by obtain ⟨cur, hh, _⟩ := h; exact (Array.getElem?_eq_some_iff.1 hh).1
theorem RowAt.at {e g n cap : Nat} {w : World} {xs : List Value} (h : RowAt w e g n cap xs) (j : Nat) (hj : j < n) (u : Value) (hu : xs[j]? = some u) : w.cell? ⟨g, j, none⟩ = some u ∧ w.frozen? ⟨g, j, none⟩ = false := by
  obtain ⟨cur, hh, hc, hm, hs, hl, ht⟩ := h
  have hget : cur[j]? = some u := by
    rw [← Array.getElem?_toList, ← List.getElem?_take_of_lt hj, ht, hu]
  simp [World.cell?, World.frozen?, hh, hget]
theorem RowAt.move {e g n cap : Nat} {w w1 : World} {xs : List Value} (h : RowAt w e g n cap xs) (hb : w1.heap[g]? = w.heap[g]?) : RowAt w1 e g n cap xs := by
  obtain ⟨cur, hh, r⟩ := h; exact ⟨cur, by rw [hb, hh], r⟩
theorem RowAt.grown {e g n cap : Nat} {w w1 : World} {xs : List Value} (h : RowAt w e g n cap xs) (hg : w.grownBy w1 none) : RowAt w1 e g n cap xs := h.move (hg.block g h.lt (by simp))
theorem RowAt.set {e g n cap : Nat} {w : World} {xs : List Value} (h : RowAt w e g n cap xs) (i : Nat) (hi : i < n) (u : Value) : RowAt (w.setCell ⟨g, i, none⟩ u) e g n cap (xs.set i u) := by
  obtain ⟨cur, hh, hc, hm, hs, hl, ht⟩ := h
  obtain ⟨cur', h1, h2, h3⟩ := setCells_row [u] i w cur hh (by simp; omega)
  refine ⟨cur', h1, hc, hm, by omega, by simp [hl], ?_⟩
  have hz : i < cur.toList.length := by rw [Array.length_toList]; omega
  have h4 : cur'.toList = cur.toList.set i u := by
    rw [h3, List.set_eq_take_append_cons_drop, if_pos hz]; simp
  rw [h4, ← ht, List.take_set]
theorem RowAt.strike {e g n cap : Nat} {w : World} {xs : List Value} (h : RowAt w e g n cap xs) (i : Nat) (hi : i ≤ n) (vs : List Value) (hv : vs.length = n - i) : RowAt (w.setCells g i vs) e g i cap (xs.take i) := by
  obtain ⟨cur, hh, hc, hm, hs, hl, ht⟩ := h
  obtain ⟨cur', h1, h2, h3⟩ := setCells_row vs i w cur hh (by omega)
  refine ⟨cur', h1, by omega, hm, by omega, by rw [List.length_take]; omega, ?_⟩
  rw [h3, List.append_assoc, List.take_append_of_le_length (by rw [List.length_take, Array.length_toList]; omega), List.take_take, ← ht, List.take_take, Nat.min_self, Nat.min_eq_left hi]
theorem grown_setCell (w : World) (a : Addr) (u : Value) : w.grownBy (w.setCell a u) (some a.block) :=
  ⟨rfl, rfl, rfl, by simp [World.setCell], fun k hk hne => Below.heap_setCell w a u k (fun e => hne (by rw [e]))⟩
theorem grown_setCells (w : World) (g o : Nat) (vs : List Value) : w.grownBy (w.setCells g o vs) (some g) := by
  obtain ⟨h1, h2, h3, h4⟩ := setCells_same g vs o w
  exact ⟨h1, h2, h3, by omega, fun k hk hne => setCells_far vs o k (fun e => hne (by rw [e]))⟩
theorem grown_none {w w1 : World} (h : w.grownBy w1 none) (row : Option Nat) : w.grownBy w1 row := ⟨h.os, h.tape, h.output, h.size, fun k hk _ => h.block k hk (by simp)⟩
theorem drop_kept {xs : List Int} {kp : Int → Bool} : keptUpTo (fun j => kp xs.toArray[j]!) xs.toArray xs.length = xs.filter kp := by
  have := keptUpTo_filter kp xs.toArray; simpa using this
end Go.Proofs.He
