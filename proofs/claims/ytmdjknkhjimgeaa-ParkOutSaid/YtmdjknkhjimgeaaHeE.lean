/- Words of this session's own: an argument that is a slice of elements of some cells each (structs), as a row that is read. -/
import Derived.Test.YtmdjknkhjimgeaaHeR
set_option linter.unusedVariables false
set_option linter.unusedSimpArgs false
set_option linter.unusedSectionVars false
namespace Go.Proofs.He
open Go Go.RowKit Go.Deep Go.ChangeShapes Go.WideShapes Go.Proofs.YtmdjknkhjimgeaaW.PrintWords
theorem arg_elems {α : Type} (κ : Kd α) {H : Type} {enc : TypeId × Value → H} {P : Program} {W : World} {t e : TypeId} {a : Option Addr} {len cap : Nat} {d : DataW H} {ps : List MemPlace} {ts : List TypeId} {ds : List (DataW H)} {j : Nat}
    (hsz : (DataW.weightsEach P ts ds).all (· ≤ reachBytes) = true) (ht : ts[j]? = some t) (hd : ds[j]? = some d) (hu : P.underlying t = some (.slice e)) (hs : κ.sz = P.cellsOf e)
    (hel : ∀ n cs' y, DataW.trod enc P W 0 (fun _ => true) true n e cs' = some y → ∃ x : α, κ.K W x cs')
    (h : DataW.Trod enc P W 0 (fun _ => true) true t (.slice a len cap) d ps) :
    ∃ G : List α, len = G.length ∧ Kd.C κ W a G.length G ∧ G.length ≤ cap ∧ G.length * P.bytesOf e ≤ 140737488351232 ∧ G.length ≤ maxLen := by
  obtain ⟨fuel, hf⟩ := h
  rcases open_slice hu hf with ⟨hcs, _⟩ | ⟨a', len', cap', m, n, D, Pl, hcs, hb, hl, hm, hmm, hx, hr⟩
  · simp [Value.cells] at hcs
    obtain ⟨rfl, rfl, rfl⟩ := hcs
    exact ⟨[], rfl, ⟨rfl, by simp, fun h => by simp at h⟩, by simp, by simp, by simp⟩
  · simp [Value.cells] at hcs
    obtain ⟨rfl, rfl, rfl⟩ := hcs
    simp only [if_true] at hmm
    subst hmm
    obtain ⟨hx1, hx2⟩ := Prod.mk.inj hx
    subst hx1
    have hS := sized_slice hsz ht hd hu
    simp only [List.length_map, List.length_range] at hS
    have hR : reachBytes = 140737488351232 := rfl
    have each : ∀ i, i < len → ∃ x : α, ∃ c : List Value, c.length = κ.sz ∧ κ.K W x c ∧ ∀ q u, c[q]? = some u → W.cell? (a'.add (i * κ.sz + q)) = some u := by
      intro i hi
      obtain ⟨cs', h1, h2⟩ := hr i (by omega)
      obtain ⟨x, hx⟩ := hel _ _ _ h2
      obtain ⟨_, hlen, hcell⟩ := World.cells?_some h1
      refine ⟨x, cs', by rw [hs]; exact hlen, hx, fun q u hq => ?_⟩
      have hq' : q < cs'.length := (List.getElem?_eq_some_iff.1 hq).1
      have e0 := hcell q (by omega)
      rw [Go.Deep.add_add] at e0
      rw [hs, e0, hq]
    have hG : ∀ m : Nat, m ≤ len → ∃ G : List α, G.length = m ∧ ∀ i p, G[i]? = some p → ∃ c : List Value, c.length = κ.sz ∧ κ.K W p c ∧ ∀ q u, c[q]? = some u → W.cell? (a'.add (i * κ.sz + q)) = some u := by
      intro m
      induction m with
      | zero => exact fun _ => ⟨[], rfl, fun i p hp => by simp at hp⟩
      | succ m ih =>
        intro hm2
        obtain ⟨G, h1, h2⟩ := ih (by omega)
        obtain ⟨x, c, h3, h4, h5⟩ := each m (by omega)
        refine ⟨G ++ [x], by simp [h1], fun i p hp => ?_⟩
        rcases Nat.lt_trichotomy i m with hi | hi | hi
        · rw [List.getElem?_append_left (by omega)] at hp; exact h2 i p hp
        · subst hi
          rw [List.getElem?_append_right (by omega), h1, Nat.sub_self] at hp
          have : x = p := by simpa using hp
          subst this
          exact ⟨c, h3, h4, h5⟩
        · rw [List.getElem?_eq_none (by simp; omega)] at hp; cases hp
    obtain ⟨G, h1, h2⟩ := hG len (Nat.le_refl _)
    have hm2 : maxLen ≤ 9223372036854775807 := by decide
    refine ⟨G, h1.symm, ⟨rfl, by omega, fun _ => ⟨a', rfl, h2⟩⟩, by omega, ?_, by omega⟩
    rw [h1]
    exact Nat.le_trans (Nat.mul_le_mul_right _ (Nat.le_add_right _ _)) (hR ▸ hS)
end Go.Proofs.He
