/- Words of this session's own: an argument is opened by its kind: what it holds, and how great its parts are. -/
import Derived.Test.YtmdjknkhjimgeaaHeE
set_option linter.unusedVariables false
set_option linter.unusedSimpArgs false
set_option linter.unusedSectionVars false
namespace Go.Proofs.He
open Go Go.RowKit Go.Deep Go.ChangeShapes Go.WideShapes Go.Proofs.YtmdjknkhjimgeaaW.PrintWords
/-- Whatever is read as a datum of type e is an element of the kind, and is Q. -/
def Opens {α : Type} {H : Type} (enc : TypeId × Value → H) (P : Program) (W : World) (κ : Kd α) (e : TypeId) (Q : α → Prop) : Prop :=
  ∀ (n : Nat) (cs : List Value) (y : DataW H × List MemPlace), DataW.trod enc P W 0 (fun _ => true) true n e cs = some y → (∀ m ∈ y.1.weights P e, m ≤ reachBytes) → ∃ x : α, κ.K W x cs ∧ Q x
section
variable {α H : Type} {enc : TypeId × Value → H} {P : Program} {W : World} {κ : Kd α} {t e : TypeId} {Q : α → Prop}
theorem weightsAll_mem {e : TypeId} : ∀ {l : List (DataW H)} {d : DataW H}, d ∈ l → ∀ n ∈ d.weights P e, n ∈ DataW.weightsAll P e l := weightsIn
theorem Opens.slice (hu : P.underlying t = some (.slice e)) (hs : κ.sz = P.cellsOf e) (ho : Opens enc P W κ e Q) : Opens enc P W (Kd.slice e κ) t (fun xs => xs.length * P.bytesOf e ≤ 140737488351232 ∧ ∀ x ∈ xs, Q x) := by
  intro fuel cs y hf hw
  rcases open_slice hu hf with ⟨rfl, rfl⟩ | ⟨a', len, cap, m, n, D, Pl, rfl, hb, hl, hm, hmm, rfl, hr⟩
  · exact ⟨[], ⟨none, 0, rfl, Nat.le_refl _, ⟨rfl, by simp, fun h => by simp at h⟩⟩, by simp, by simp⟩
  · simp only [if_true] at hmm
    subst hmm
    have hR : reachBytes = 140737488351232 := rfl
    have hin : ∀ i, i < len → D i ∈ (List.range len).map D := fun i hi => List.mem_map.2 ⟨i, List.mem_range.2 hi, rfl⟩
    have each : ∀ i, i < len → ∃ x : α, ∃ c : List Value, c.length = κ.sz ∧ κ.K W x c ∧ Q x ∧ ∀ q u, c[q]? = some u → W.cell? (a'.add (i * κ.sz + q)) = some u := by
      intro i hi
      obtain ⟨cs', h1, h2⟩ := hr i (by omega)
      obtain ⟨x, hx, hq⟩ := ho _ _ _ h2 (fun k hk => hw k (by
        simp only [DataW.weights, hu, List.mem_cons, List.mem_append]
        exact .inr (.inl (weightsIn (hin i hi) _ hk))))
      obtain ⟨_, hlen, hcell⟩ := World.cells?_some h1
      refine ⟨x, cs', by rw [hs]; exact hlen, hx, hq, fun q u hq => ?_⟩
      have hq' : q < cs'.length := (List.getElem?_eq_some_iff.1 hq).1
      have e0 := hcell q (by omega)
      rw [Go.Deep.add_add] at e0
      rw [hs, e0, hq]
    have hG : ∀ m : Nat, m ≤ len → ∃ G : List α, G.length = m ∧ (∀ x ∈ G, Q x) ∧ ∀ i p, G[i]? = some p → ∃ c : List Value, c.length = κ.sz ∧ κ.K W p c ∧ ∀ q u, c[q]? = some u → W.cell? (a'.add (i * κ.sz + q)) = some u := by
      intro m
      induction m with
      | zero => exact fun _ => ⟨[], rfl, by simp, fun i p hp => by simp at hp⟩
      | succ m ih =>
        intro hm2
        obtain ⟨G, h1, h0, h2⟩ := ih (by omega)
        obtain ⟨x, c, h3, h4, h6, h5⟩ := each m (by omega)
        refine ⟨G ++ [x], by simp [h1], fun z hz => ?_, fun i p hp => ?_⟩
        · rcases List.mem_append.1 hz with h | h
          · exact h0 z h
          · rw [List.mem_singleton.1 h]; exact h6
        · rcases Nat.lt_trichotomy i m with hi | hi | hi
          · rw [List.getElem?_append_left (by omega)] at hp; exact h2 i p hp
          · subst hi
            rw [List.getElem?_append_right (by omega), h1, Nat.sub_self] at hp
            have : x = p := by simpa using hp
            subst this
            exact ⟨c, h3, h4, h5⟩
          · rw [List.getElem?_eq_none (by simp; omega)] at hp; cases hp
    obtain ⟨G, h1, h0, h2⟩ := hG len (Nat.le_refl _)
    have hm2 : maxLen ≤ 9223372036854775807 := by decide
    refine ⟨G, ⟨some a', m, by rw [h1], by omega, ⟨rfl, by omega, fun _ => ⟨a', rfl, h2⟩⟩⟩, ?_, h0⟩
    have := hw (((List.range len).map D).length * P.bytesOf e + ((List.range (m - len)).map fun j => D (len + j)).length * P.bytesOf e) (by
      simp only [DataW.weights, hu, List.mem_cons]; exact .inl (by rw [Nat.add_mul]))
    rw [hR] at this
    simp only [List.length_map, List.length_range] at this
    rw [h1]; omega
theorem Opens.string (hu : P.underlying t = some .string) : Opens enc P W Kd.string t (fun s => s.size ≤ 140737488351232) := by
  intro fuel cs y hf hw
  obtain ⟨s, rfl, rfl, _⟩ := DataW.trod_string hu hf
  refine ⟨s, rfl, ?_⟩
  have := hw s.data.toList.length (by simp [DataW.weights])
  rw [Array.length_toList] at this
  exact this
theorem Opens.int {k : IntKind} (hu : P.underlying t = some (.int k)) : Opens enc P W (Kd.int k) t (fun n => (Lit.int k n).wf = true) := by
  intro fuel cs y hf _
  obtain ⟨n, rfl, rfl, h⟩ := DataW.trod_int hu hf
  exact ⟨n, rfl, h⟩
theorem Opens.mono {Q' : α → Prop} (ho : Opens enc P W κ e Q) (h : ∀ x, Q x → Q' x) : Opens enc P W κ e Q' := fun n cs y hf hw => by
  obtain ⟨x, h1, h2⟩ := ho n cs y hf hw
  exact ⟨x, h1, h x h2⟩
/-- An argument. -/
theorem Opens.arg (ho : Opens enc P W κ t Q) {ts : List TypeId} {ds : List (DataW H)} {j : Nat} (hsz : (DataW.weightsEach P ts ds).all (· ≤ reachBytes) = true) {v : Value} {d : DataW H} {ps : List MemPlace} (ht : ts[j]? = some t) (hd : ds[j]? = some d)
    (h : DataW.Trod enc P W 0 (fun _ => true) true t v d ps) : ∃ x : α, κ.K W x v.cells.toList ∧ Q x := by
  obtain ⟨fuel, hf⟩ := h
  exact ho fuel _ _ hf (fun m hm => of_decide_eq_true (List.all_eq_true.1 hsz _ (DataW.weights_mem_each ht hd m hm)))
/-- An argument that is a slice. -/
theorem Opens.argSlice {Q : List α → Prop} (ho : Opens enc P W (Kd.slice e κ) t Q) {ts : List TypeId} {ds : List (DataW H)} {j : Nat} (hsz : (DataW.weightsEach P ts ds).all (· ≤ reachBytes) = true) {a : Option Addr} {len cap : Nat} {d : DataW H} {ps : List MemPlace} (ht : ts[j]? = some t) (hd : ds[j]? = some d)
    (h : DataW.Trod enc P W 0 (fun _ => true) true t (.slice a len cap) d ps) : ∃ G : List α, len = G.length ∧ Kd.C κ W a G.length G ∧ G.length ≤ cap ∧ Q G := by
  obtain ⟨G, ⟨A, c, e0, h1, h2⟩, hq⟩ := ho.arg hsz ht hd h
  have e1 : [Value.slice a len cap] = [Value.slice A G.length c] := e0
  cases e1
  exact ⟨G, rfl, h2, h1, hq⟩
end
end Go.Proofs.He
