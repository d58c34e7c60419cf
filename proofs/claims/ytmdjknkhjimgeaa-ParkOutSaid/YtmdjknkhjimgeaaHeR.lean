/- Words of this session's own: an argument that is a slice of slices of whole numbers, as a row of rows that is read. -/
import Derived.Test.YtmdjknkhjimgeaaHeS
import Derived.Deep.Matrix
import Derived.SizedLaws
set_option linter.unusedVariables false
set_option linter.unusedSimpArgs false
set_option linter.unusedSectionVars false
namespace Go.Proofs.He
open Go Go.RowKit Go.Deep Go.ChangeShapes Go.WideShapes Go.Proofs.YtmdjknkhjimgeaaW.PrintWords
theorem weightsIn {H : Type} {P : Program} {e : TypeId} : ∀ {l : List (DataW H)} {d : DataW H}, d ∈ l → ∀ n ∈ d.weights P e, n ∈ DataW.weightsAll P e l
  | d' :: r, d, hd, n, hn => by
    simp only [DataW.weightsAll, List.mem_append]
    rcases List.mem_cons.1 hd with rfl | h
    · exact Or.inl hn
    · exact Or.inr (weightsIn h n hn)
theorem sizedIn {H : Type} {P : Program} {ts : List TypeId} {ds : List (DataW H)} (h : (DataW.weightsEach P ts ds).all (· ≤ reachBytes) = true) {j : Nat} {t e q : TypeId} {elems spare e' sp' : List (DataW H)}
    (ht : ts[j]? = some t) (hd : ds[j]? = some (.slice elems spare)) (hu : P.underlying t = some (.slice e)) (hu2 : P.underlying e = some (.slice q)) (hx : DataW.slice e' sp' ∈ elems) : (e'.length + sp'.length) * P.bytesOf q ≤ reachBytes := by
  refine of_decide_eq_true (List.all_eq_true.1 h _ (DataW.weights_mem_each ht hd _ ?_))
  simp only [DataW.weights, hu, List.mem_cons, List.mem_append]
  exact Or.inr (Or.inl (weightsIn hx _ (by simp [DataW.weights, hu2])))
theorem arg_rows {H : Type} {enc : TypeId × Value → H} {P : Program} {W : World} {t e q : TypeId} {k : IntKind} {a : Option Addr} {len cap : Nat} {d : DataW H} {ps : List MemPlace} {ts : List TypeId} {ds : List (DataW H)} {j : Nat}
    (hsz : (DataW.weightsEach P ts ds).all (· ≤ reachBytes) = true) (ht : ts[j]? = some t) (hd : ds[j]? = some d) (hu : P.underlying t = some (.slice e)) (hu2 : P.underlying e = some (.slice q)) (hq : P.underlying q = some (.int k)) (ce : P.cellsOf e = 1) (cq : P.cellsOf q = 1) (be : P.bytesOf e = 24)
    (h : DataW.Trod enc P W 0 (fun _ => true) true t (.slice a len cap) d ps) :
    ∃ G : List (List Int), len = G.length ∧ Kd.C (Kd.slice q (Kd.int k)) W a G.length G ∧ G.length ≤ cap ∧ G.length * 24 ≤ 140737488351232 ∧ (∀ n, (G.getD n []).length * P.bytesOf q ≤ 140737488351232) ∧ (∀ r ∈ G, ∀ x ∈ r, (Lit.int k x).wf = true) := by
  obtain ⟨fuel, hf⟩ := h
  rcases open_int_rows hu hu2 hq ce cq hf with ⟨hcs, _⟩ | ⟨a', len', cap', A, L, C, Z, hcs, hb, hl, hm, hx, hr⟩
  · simp [Value.cells] at hcs
    obtain ⟨rfl, rfl, rfl⟩ := hcs
    exact ⟨[], rfl, ⟨rfl, by simp, fun h => by simp at h⟩, by simp, by simp, fun n => by simp, fun r hr => by cases hr⟩
  · simp [Value.cells] at hcs
    obtain ⟨rfl, rfl, rfl⟩ := hcs
    obtain ⟨hx1, hx2⟩ := Prod.mk.inj hx
    subst hx1
    have hS := sized_slice hsz ht hd hu
    rw [be] at hS
    simp only [List.length_map, List.length_range] at hS
    have hR : reachBytes = 140737488351232 := rfl
    refine ⟨(List.range len).map fun r => (Z r).take (L r), by simp, ⟨rfl, ?_, fun _ => ⟨a', rfl, fun j p hp => ?_⟩⟩, by simpa using hl, by simp; omega, fun n => ?_, fun r hr2 x hx3 => ?_⟩
    · simp; omega
    · rw [List.getElem?_map] at hp
      by_cases hj : j < len
      · rw [List.getElem?_range hj, Option.map_some] at hp
        obtain rfl := Option.some.inj hp
        obtain ⟨h1, h2, h3, h4, h5, h6, h7⟩ := hr j (by omega)
        have hlen : ((Z j).take (L j)).length = L j := by rw [List.length_take]; omega
        have hm2 : maxLen = 9223372036854775807 ∨ maxLen ≤ 9223372036854775807 := .inr (by decide)
        refine ⟨[.slice (A j) (L j) (C j)], rfl, ⟨A j, C j, by rw [hlen], by rw [hlen]; exact h2, ?_⟩, fun i u hi => ?_⟩
        · refine Kd.C_of_reads (d := (0 : Int)) (h1 := fun _ => rfl) ⟨rfl, by rw [hlen]; rcases hm2 with h | h <;> omega, fun hpos => ?_⟩
          rw [hlen] at hpos
          cases hA : A j with
          | none => have := h6 hA; omega
          | some ad =>
            refine ⟨ad, rfl, fun c hc => ?_⟩
            rw [hlen] at hc
            rw [(h7 ad hA).2 c (by omega), List.getD_eq_getElem?_getD, List.getD_eq_getElem?_getD, List.getElem?_take_of_lt hc]
        · cases i with
          | zero =>
            have hu3 : some (Value.slice (A j) (L j) (C j)) = some u := hi
            cases hu3
            have : j * 1 + 0 = j := by omega
            show W.cell? (a'.add (j * 1 + 0)) = _
            rw [this]; exact h1
          | succ i => simp at hi
      · rw [List.getElem?_eq_none (by simp; omega)] at hp; simp at hp
    · rw [List.getD_eq_getElem?_getD, List.getElem?_map]
      by_cases hn : n < len
      · rw [List.getElem?_range hn, Option.map_some, Option.getD_some]
        obtain ⟨h1, h2, h3, h4, h5, h6, h7⟩ := hr n (by omega)
        cases hA : A n with
        | none => have h8 := h6 hA; have : ((Z n).take (L n)).length = 0 := by rw [List.length_take]; omega
                  rw [this]; omega
        | some ad =>
          have := sizedIn hsz ht hd hu hu2 (e' := lits k ((Z n).take (L n))) (sp' := lits k ((Z n).drop (L n))) (List.mem_map.2 ⟨n, List.mem_range.2 hn, by simp [intRow, hA]⟩)
          simp only [lits, List.length_map] at this
          refine Nat.le_trans (Nat.mul_le_mul_right _ (Nat.le_add_right _ _)) (hR ▸ this)
      · rw [List.getElem?_eq_none (by simp; omega)]; simp
    · obtain ⟨n, hn, rfl⟩ := List.mem_map.1 hr2
      obtain ⟨h1, h2, h3, h4, h5, _⟩ := hr n (by have := List.mem_range.1 hn; omega)
      exact h5 x (List.mem_of_mem_take hx3)
end Go.Proofs.He
