/- Words of this session's own: rows of one-cell elements of the call's own, through the shelf's sort. -/
import Derived.Test.YtmdjknkhjimgeaaHe2
import Derived.Sort.Grow
import Derived.Laws.EntriesVeiled
import Derived.StillTailTactics
set_option linter.unusedVariables false
set_option linter.unusedSimpArgs false
set_option linter.unusedSectionVars false
namespace Go.Proofs.He
open Go Go.RowKit Go.Sort Go.Proofs.YtmdjknkhjimgeaaW.PrintWords

section
variable {α : Type} [Inhabited α] {enc : α → Value} {h1 : ∀ x, (enc x).oneCell' = true}
theorem flatScalar (enc : α → Value) (h1 : ∀ x, (enc x).oneCell' = true) : Flat (Kd.scalar enc h1) (fun x => [enc x]) :=
  ⟨fun _ => rfl, fun x u hu => by rw [List.mem_singleton.1 hu]; exact h1 x, fun _ _ _ _ _ => Iff.rfl, fun _ _ _ => Iff.rfl⟩
theorem flatMap_one (l : List α) : l.flatMap (fun x => [enc x]) = l.map enc := by induction l with | nil => rfl | cons x l ih => simp [ih]
theorem scalar_own {e base : Nat} {w : World} {ok : Nat → Prop} {v : Value} {xs : List α} (h : (Kd.scalar enc h1).R e w base ok v xs) : w.ownsRow base e 1 v xs.length (xs.map enc) ∧ ∀ k, v.ownBlock = some k → ok k := by
  have := Flat.own (flatScalar enc h1) h
  rwa [flatMap_one] at this
theorem scalar_put {e base : Nat} {w : World} {ok : Nat → Prop} {v : Value} {xs : List α} (h : w.ownsRow base e 1 v xs.length (xs.map enc)) (hok : ∀ k, v.ownBlock = some k → ok k) : (Kd.scalar enc h1).R e w base ok v xs :=
  Flat.put (flatScalar enc h1) (by rw [flatMap_one]; exact h) hok
/-- What the sort asks. -/
theorem holds_of_row {e base g n cap : Nat} {w : World} {xs : List α} (h : w.ownsRow base e 1 (.slice (some ⟨g, 0, none⟩) n cap) n (xs.map enc)) : Holds enc w g 0 xs.toArray ∧ g < w.heap.size ∧ n = xs.length ∧ n ≤ cap := by
  obtain ⟨hl, h⟩ := h
  rcases h with ⟨h, _⟩ | ⟨g', cap', cur, hv, hb, hh, hc, hm, hs, ht⟩
  · cases h
  · injection hv with ha hn hc'
    injection ha with ha
    injection ha with ha
    subst ha; subst hc'
    have hn : n = xs.length := by simpa using hl.symm
    refine ⟨fun j hj => ?_, (Array.getElem?_eq_some_iff.1 hh).1, hn, hc⟩
    have hj' : j < xs.length := by simpa using hj
    have hget : cur[j]? = some (enc xs[j]) := by
      have : (cur.toList.take (n * 1))[j]? = (xs.map enc)[j]? := by rw [ht]
      rw [List.getElem?_take, if_pos (by omega)] at this
      rw [← Array.getElem?_toList, this]
      simp [hj']
    have e1 : xs.toArray[j]! = xs[j] := by rw [getElem!_pos xs.toArray j (by simpa using hj')]; simp
    rw [e1]
    simp [World.cell?, World.frozen?, hh, hget]
theorem row_of_put {e base g n cap : Nat} {w : World} {cells : List Value} (h : w.ownsRow base e 1 (.slice (some ⟨g, 0, none⟩) n cap) n cells) (m : Nat) (os : Array Obj) (d : List α) (hd : d.length = n) :
    (grow (putRow enc (Sort.ahead w m) g 0 d.toArray) os).ownsRow base e 1 (.slice (some ⟨g, 0, none⟩) n cap) n (d.map enc) := by
  obtain ⟨hl, h⟩ := h
  rcases h with ⟨h, _⟩ | ⟨g', cap', cur, hv, hb, hh, hc, hm, hs, ht⟩
  · cases h
  · injection hv with ha hn hc'
    injection ha with ha
    injection ha with ha
    subst ha; subst hc'
    have hg : g < w.heap.size := (Array.getElem?_eq_some_iff.1 hh).1
    refine ⟨by simp [hd], .inr ⟨g, cap, putCells enc 0 d.toArray cur, rfl, hb, ?_, hc, hm, by simp [putCells]; simpa using hs, ?_⟩⟩
    · rw [heap_grow_old _ _ (by simpa using hg)]
      simp [putRow, mapBlock, Array.getElem?_modify, hh, onCells]
    · apply List.ext_getElem?
      intro j
      rw [List.getElem?_take]
      split
      · rename_i hj
        have hj' : j < d.length := by omega
        have hjc : j < cur.size := by omega
        simp [putCells, hj', hjc]
      · rename_i hj
        rw [List.getElem?_eq_none]; simp; omega
theorem grown_put {g : Nat} {w : World} (m : Nat) (os : Array Obj) (d : List α) : w.grownBy (grow (putRow enc (Sort.ahead w m) g 0 d.toArray) os) (some g) :=
  ⟨rfl, rfl, rfl, by simp, fun k hk hne => by
    rw [heap_grow_old _ _ (by simpa using hk)]
    have : g ≠ k := fun e => hne (by rw [e])
    simp [putRow, mapBlock, Array.getElem?_modify, this]⟩
end
/-- Row i of a slice of slices that is read. -/
theorem at_row {w : World} {e : Nat} {k : IntKind} {A : Option Addr} {n : Nat} {xs : List (List Int)} (h : Kd.C (Kd.slice e (Kd.int k)) w A n xs) (i : Int) (h0 : 0 ≤ i) (h1 : i < n) :
    ∃ ad A0 c0, A = some ad ∧ w.cell? (ad.add i.toNat) = some (.slice A0 (xs.getD i.toNat []).length c0) ∧ (xs.getD i.toNat []).length ≤ c0 ∧ (Kd.int k).C w A0 (xs.getD i.toNat []).length (xs.getD i.toNat []) := by
  obtain ⟨ad, c, e, _, hK, hc0⟩ := Kd.C_get h ([] : List Int) i h0 h1
  have hc : ∀ j u, c[j]? = some u → w.cell? (ad.add (i.toNat * 1 + j)) = some u := hc0
  obtain ⟨A0, c0, rfl, l0, g0⟩ := hK
  exact ⟨ad, A0, c0, e, by have hq := hc 0 _ rfl; rwa [Nat.mul_one, Nat.add_zero] at hq, l0, g0⟩
/-- The last element of a row of the call's own, and the row without it. -/
theorem row_last {e base : Nat} {w : World} {ok : Nat → Prop} {v : Value} {k : IntKind} {xs : List Int} {x : Int} (h : (Kd.int k).R e w base ok v (xs ++ [x])) :
    ∃ g cap, v = .slice (some ⟨g, 0, none⟩) (xs.length + 1) cap ∧ xs.length + 1 ≤ cap ∧ w.cell? ⟨g, xs.length, none⟩ = some (.int k x) ∧ (Kd.int k).R e w base ok (.slice (some ⟨g, 0, none⟩) xs.length cap) xs := by
  obtain ⟨ho, hok⟩ := scalar_own h
  obtain ⟨hl, h⟩ := ho
  rcases h with ⟨_, h⟩ | ⟨g, cap, cur, rfl, hb, hh, hc, hm, hs, ht⟩
  · simp at h
  · have hlen : (xs ++ [x]).length = xs.length + 1 := by simp
    rw [hlen] at hc ht hl
    refine ⟨g, cap, by rw [hlen], hc, ?_, ?_⟩
    · have : (cur.toList.take ((xs.length + 1) * 1))[xs.length]? = ((xs ++ [x]).map (Value.int k))[xs.length]? := by rw [ht]
      rw [List.getElem?_take, if_pos (by omega)] at this
      have e2 : cur[xs.length]? = some (.int k x) := by rw [← Array.getElem?_toList, this]; simp
      simp [World.cell?, hh, e2]
    · refine scalar_put ⟨by simp, .inr ⟨g, cap, cur, rfl, hb, hh, by omega, hm, hs, ?_⟩⟩ hok
      have : (cur.toList.take ((xs.length + 1) * 1)).take (xs.length * 1) = ((xs ++ [x]).map (Value.int k)).take (xs.length * 1) := by rw [ht]
      rw [List.take_take, Nat.min_eq_left (by omega)] at this
      rw [this]
      simp
theorem row_form {e base : Nat} {w : World} {ok : Nat → Prop} {v : Value} {k : IntKind} {xs : List Int} (h : (Kd.int k).R e w base ok v xs) (hp : 0 < xs.length) : ∃ g cap, v = .slice (some ⟨g, 0, none⟩) xs.length cap ∧ base ≤ g := by
  obtain ⟨ho, _⟩ := scalar_own h
  rcases ho.2 with ⟨_, h0⟩ | ⟨g, cap, cur, rfl, hg, _⟩
  · omega
  · exact ⟨g, cap, rfl, hg⟩
theorem cell_by {W w1 : World} {row : Option Nat} (hg : W.grownBy w1 row) {a : Addr} {v : Value} (h : W.cell? a = some v) (hne : some a.block ≠ row) : w1.cell? a = some v := by
  have := hg.block a.block (World.block_lt_of_cell? W a h) hne
  simpa [World.cell?, this] using h
theorem own_ne_row {P : Program} {k : TypeId} {α β γ : Type} [DecidableEq α] {κ : KK P k α} {ν : VK β} {M : List (α × β)} {w : World} {b e base : Nat} {ok : Nat → Prop} {d : Kd γ} {v : Value} {xs : List γ} (h : Own κ ν w b M) (hr : d.R e w base ok v xs) : some b ≠ v.ownBlock := by
  intro e
  obtain ⟨inner, ho⟩ := Kd.R_own hr
  obtain ⟨cells, hc⟩ := own_typed ho _ e.symm
  exact h.off hc rfl
theorem iter_ne_row {P : Program} {k : TypeId} {α β γ : Type} [DecidableEq α] {κ : KK P k α} {ν : VK β} {M : List (α × β)} {todo : List α} {w : World} {b r e base : Nat} {ok : Nat → Prop} {d : Kd γ} {v : Value} {xs : List γ} (h : Iter κ ν w b r M todo) (hr : d.R e w base ok v xs) : some r ≠ v.ownBlock := by
  intro e
  obtain ⟨inner, ho⟩ := Kd.R_own hr
  obtain ⟨cells, hc⟩ := own_typed ho _ e.symm
  exact h.off hc rfl
/-- A call that sorts a row of the call's own (the shelf's contracts, in our words). -/
theorem sort_row {α : Type} [Inhabited α] {enc : α → Value} {h1 : ∀ x, (enc x).oneCell' = true} {P : Program} {f : Nat} {srt : List α → List α} (hlen : ∀ l, (srt l).length = l.length) (hnil : srt [] = [])
    (hnone : ∀ (p : Option Addr) (cap : Nat) (w : World), Calls P f #[.slice p 0 cap] w fun e w' => e = .returned (.tuple #[]) ∧ w' = w)
    (hsome : ∀ (blk off cap : Nat) (zs : List α) (w : World), Holds enc w blk off zs.toArray → blk < w.heap.size → zs.length < 4611686018427387904 → Calls P f #[.slice (some ⟨blk, off, none⟩) zs.length cap] w fun e w' => e = .returned (.tuple #[]) ∧ ∃ n os, w' = grow (putRow enc (Sort.ahead w n) blk off (srt zs).toArray) os)
    {e base : Nat} {ok : Nat → Prop} {v : Value} {xs : List α} {w : World} (h : (Kd.scalar enc h1).R e w base ok v xs) (hsz : xs.length < 4611686018427387904) :
    Calls P f #[v] w fun e' w' => e' = .returned (.tuple #[]) ∧ (Kd.scalar enc h1).R e w' base ok v (srt xs) ∧ w.grownBy w' v.ownBlock := by
  obtain ⟨ho, hok⟩ := scalar_own h
  have ho' := ho
  rcases ho.2 with ⟨rfl, h0⟩ | ⟨g, cap, cur, rfl, _⟩
  · have hx : xs = [] := List.eq_nil_of_length_eq_zero h0
    subst hx
    refine (hnone none 0 w).mono ?_
    rintro e' w' ⟨rfl, rfl⟩
    exact ⟨rfl, by rw [hnil]; exact h, World.grownBy.refl _ _⟩
  · obtain ⟨a1, a2, a3, a4⟩ := holds_of_row ho'
    refine (hsome g 0 cap xs w a1 a2 hsz).mono ?_
    rintro e' w' ⟨rfl, n, os, rfl⟩
    refine ⟨rfl, scalar_put (by rw [hlen]; exact row_of_put ho' n os (srt xs) (hlen xs)) hok, grown_put n os _⟩
end Go.Proofs.He
