/- Words of this session's own: rows of strings of the call's own, sorted, each once. -/
import Derived.Test.YtmdjknkhjimgeaaHeP
import Derived.Sort.EncStr
set_option linter.unusedVariables false
set_option linter.unusedSimpArgs false
set_option linter.unusedSectionVars false
namespace Go.Proofs.He
open Go Go.RowKit Go.Sort Go.Proofs.YtmdjknkhjimgeaaW.PrintWords
theorem ble_trans {a b c : List UInt8} (h : a ≤ b) (k : b ≤ c) : a ≤ c := by
  rcases List.le_iff_lt_or_eq.1 h with h | h
  · rcases List.le_iff_lt_or_eq.1 k with k | k
    · exact List.le_iff_lt_or_eq.2 (.inl (List.lt_trans h k))
    · exact List.le_iff_lt_or_eq.2 (.inl (k ▸ h))
  · exact h ▸ k
theorem ble_total (a b : List UInt8) : a ≤ b ∨ b ≤ a := by
  by_cases h : a < b
  · exact .inl (List.le_iff_lt_or_eq.2 (.inl h))
  · exact .inr (List.not_lt.1 h)
theorem compactUpTo_riseS (d : Array (List UInt8)) (hs : ∀ i j, i ≤ j → j < d.size → d[i]! ≤ d[j]!) : ∀ (m : Nat), m ≤ d.size → (Lib.compactUpTo d m).Pairwise (· < ·) ∧ (∀ x, x ∈ Lib.compactUpTo d m ↔ ∃ j, j < m ∧ d[j]! = x)
  | 0, _ => by simp [Lib.compactUpTo]
  | m + 1, hm => by
    obtain ⟨h1, h2⟩ := compactUpTo_riseS d hs m (by omega)
    rw [Lib.compactUpTo_succ]
    cases hk : Lib.keeps d m with
    | true =>
      rw [if_pos rfl]
      have hne : m = 0 ∨ d[m]! ≠ d[m - 1]! := by simpa [Lib.keeps] using hk
      refine ⟨List.pairwise_append.2 ⟨h1, by simp, fun a ha b hb => ?_⟩, fun x => ?_⟩
      · rw [List.mem_singleton.1 hb]
        obtain ⟨j, hj, rfl⟩ := (h2 a).1 ha
        have e1 := hs j (m - 1) (by omega) (by omega)
        have e2 := hs (m - 1) m (by omega) (by omega)
        rcases hne with h | h
        · omega
        · rcases List.le_iff_lt_or_eq.1 e2 with e2 | e2
          · rcases List.le_iff_lt_or_eq.1 e1 with e1 | e1
            · exact List.lt_trans e1 e2
            · rw [e1]; exact e2
          · exact absurd e2.symm h
      · rw [List.mem_append, List.mem_singleton, h2]
        constructor
        · rintro (⟨j, hj, rfl⟩ | rfl)
          · exact ⟨j, by omega, rfl⟩
          · exact ⟨m, by omega, rfl⟩
        · rintro ⟨j, hj, rfl⟩
          by_cases e : j = m
          · subst e; exact .inr rfl
          · exact .inl ⟨j, by omega, rfl⟩
    | false =>
      have hne : m ≠ 0 ∧ d[m]! = d[m - 1]! := by simpa [Lib.keeps] using hk
      rw [if_neg (by simp), List.append_nil]
      refine ⟨h1, fun x => ?_⟩
      rw [h2]
      constructor
      · rintro ⟨j, hj, rfl⟩; exact ⟨j, by omega, rfl⟩
      · rintro ⟨j, hj, rfl⟩
        by_cases e : j = m
        · subst e; exact ⟨j - 1, by omega, hne.2.symm⟩
        · exact ⟨j, by omega, rfl⟩
def riseS (l : List (List UInt8)) : List (List UInt8) := Lib.compact (l.mergeSort fun x y => decide (x ≤ y))
theorem riseS_spec (l : List (List UInt8)) : (riseS l).Pairwise (· < ·) ∧ ∀ x, x ∈ riseS l ↔ x ∈ l := by
  unfold riseS Lib.compact
  obtain ⟨s, hs⟩ : ∃ s, s = l.mergeSort fun x y => decide (x ≤ y) := ⟨_, rfl⟩
  rw [← hs]
  have hp : s.Pairwise (fun x y => x ≤ y) := by
    have := List.pairwise_mergeSort (le := fun x y : List UInt8 => decide (x ≤ y)) (fun a b c h1 h2 => decide_eq_true (ble_trans (of_decide_eq_true h1) (of_decide_eq_true h2))) (fun a b => by
      rcases ble_total a b with h | h
      · simp [h]
      · simp [h]) l
    rw [← hs] at this
    exact this.imp (fun h => of_decide_eq_true h)
  have hmem : ∀ x, x ∈ s ↔ x ∈ l := fun x => by rw [hs, (List.mergeSort_perm _ _).mem_iff]
  have hat : ∀ j, (h : j < s.length) → s.toArray[j]! = s[j] := fun j h => by rw [getElem!_pos s.toArray j (by simpa using h)]; simp
  obtain ⟨h1, h2⟩ := compactUpTo_riseS s.toArray (fun i j hij hj => by
    have hj' : j < s.length := by simpa using hj
    rw [hat i (by omega), hat j hj']
    rcases Nat.lt_or_eq_of_le hij with h | rfl
    · exact List.pairwise_iff_getElem.1 hp i j (by omega) hj' h
    · exact List.le_iff_lt_or_eq.2 (.inr rfl)) s.length (by simp)
  refine ⟨h1, fun x => ?_⟩
  rw [h2, ← hmem]
  constructor
  · rintro ⟨j, hj, rfl⟩; rw [hat j hj]; exact List.getElem_mem hj
  · intro hx; obtain ⟨j, hj, rfl⟩ := List.getElem_of_mem hx; exact ⟨j, hj, hat j hj⟩
theorem rises_eqS : ∀ {l l' : List (List UInt8)}, l.Pairwise (· < ·) → l'.Pairwise (· < ·) → (∀ x, x ∈ l ↔ x ∈ l') → l = l'
  | [], [], _, _, _ => rfl
  | [], y :: l', _, _, h => absurd ((h y).2 (List.mem_cons_self ..)) (by simp)
  | x :: l, [], _, _, h => absurd ((h x).1 (List.mem_cons_self ..)) (by simp)
  | x :: l, y :: l', h1, h2, h => by
    obtain ⟨a1, a2⟩ := List.pairwise_cons.1 h1
    obtain ⟨b1, b2⟩ := List.pairwise_cons.1 h2
    have e : x = y := by
      rcases List.mem_cons.1 ((h x).1 (List.mem_cons_self ..)) with e | hx
      · exact e
      · rcases List.mem_cons.1 ((h y).2 (List.mem_cons_self ..)) with e | hy
        · exact e.symm
        · exact absurd (List.lt_trans (b1 x hx) (a1 y hy)) (List.lt_irrefl _)
    subst e
    rw [rises_eqS a2 b2 (fun z => ?_)]
    constructor
    · intro hz
      rcases List.mem_cons.1 ((h z).1 (List.mem_cons_of_mem _ hz)) with rfl | h'
      · exact absurd (a1 _ hz) (List.lt_irrefl _)
      · exact h'
    · intro hz
      rcases List.mem_cons.1 ((h z).2 (List.mem_cons_of_mem _ hz)) with rfl | h'
      · exact absurd (b1 _ hz) (List.lt_irrefl _)
      · exact h'
theorem riseS_eq {l l' : List (List UInt8)} (h : ∀ x, x ∈ l ↔ x ∈ l') : riseS l = riseS l' :=
  rises_eqS (riseS_spec l).1 (riseS_spec l').1 (fun x => by rw [(riseS_spec l).2, (riseS_spec l').2, h])
def ofBs (l : List UInt8) : ByteArray := ⟨l.toArray⟩
def toBs (b : ByteArray) : List UInt8 := b.data.toList
theorem ofBs_toBs (b : ByteArray) : ofBs (toBs b) = b := by cases b; simp [ofBs, toBs]
theorem toBs_ofBs (l : List UInt8) : toBs (ofBs l) = l := by simp [ofBs, toBs]
/-- Names, rising, each once. -/
def riseB (l : List ByteArray) : List ByteArray := (riseS (l.map toBs)).map ofBs
theorem riseB_mem (l : List ByteArray) (x : ByteArray) : x ∈ riseB l ↔ x ∈ l := by
  unfold riseB
  rw [List.mem_map]
  constructor
  · rintro ⟨y, hy, rfl⟩
    obtain ⟨z, hz, rfl⟩ := List.mem_map.1 (((riseS_spec _).2 y).1 hy)
    rw [ofBs_toBs]; exact hz
  · intro hx
    exact ⟨toBs x, ((riseS_spec _).2 _).2 (List.mem_map.2 ⟨x, hx, rfl⟩), ofBs_toBs x⟩
theorem riseB_uniq {l l' : List ByteArray} (h : (l'.map toBs).Pairwise (· < ·)) (hm : ∀ x, x ∈ l' ↔ x ∈ l) : l' = riseB l := by
  have e : l'.map toBs = riseS (l.map toBs) := rises_eqS h (riseS_spec _).1 (fun x => by
    rw [(riseS_spec _).2]
    constructor
    · intro hx; obtain ⟨y, hy, rfl⟩ := List.mem_map.1 hx; exact List.mem_map.2 ⟨y, (hm y).1 hy, rfl⟩
    · intro hx; obtain ⟨y, hy, rfl⟩ := List.mem_map.1 hx; exact List.mem_map.2 ⟨y, (hm y).2 hy, rfl⟩)
  unfold riseB
  rw [← e, List.map_map]
  have : (ofBs ∘ toBs) = id := by funext b; exact ofBs_toBs b
  rw [this, List.map_id]
theorem riseB_length (l : List ByteArray) : (riseB l).length ≤ l.length := by
  unfold riseB riseS
  rw [List.length_map]
  refine Nat.le_trans (Lib.compact_length_le _) ?_
  rw [List.length_mergeSort, List.length_map]
  exact Nat.le_refl _
theorem encStr_one : ∀ x : List UInt8, (encStr x).oneCell' = true := fun _ => rfl
theorem str_row {e base : Nat} {w : World} {ok : Nat → Prop} {v : Value} {xs : List ByteArray} (h : Kd.string.R e w base ok v xs) : (Kd.scalar encStr encStr_one).R e w base ok v (xs.map toBs) := by
  obtain ⟨h1, h2⟩ := scalar_own h
  refine scalar_put ?_ h2
  rw [List.length_map, List.map_map]
  have : (encStr ∘ toBs) = Value.string := by funext b; show Value.string (ofBs (toBs b)) = _; rw [ofBs_toBs]
  rw [this]; exact h1
theorem row_str {e base : Nat} {w : World} {ok : Nat → Prop} {v : Value} {xs : List (List UInt8)} (h : (Kd.scalar encStr encStr_one).R e w base ok v xs) : Kd.string.R e w base ok v (xs.map ofBs) := by
  obtain ⟨h1, h2⟩ := scalar_own h
  refine scalar_put ?_ h2
  rw [List.length_map, List.map_map]
  exact h1
/-- A call that leaves each of a row once (the shelf's contracts, in our words). -/
theorem compact_rowG {α : Type} [Inhabited α] [DecidableEq α] {enc : α → Value} {h1 : ∀ x, (enc x).oneCell' = true} (zr : α) {P : Program} {f : Nat} (hnone : ∀ (a : Option Addr) (cap : Nat) (w : World), Calls P f #[.slice a 0 cap] w fun e w' => e = .returned (.slice a 0 cap) ∧ w' = w)
    (hsome : ∀ (blk off cap : Nat) (zs : List α) (w : World), Sort.Holds enc w blk off zs.toArray → zs.length ≤ 9223372036854775807 → zs.length ≤ cap → Calls P f #[.slice (some ⟨blk, off, none⟩) zs.length cap] w fun e w' => e = .returned (.slice (some ⟨blk, off, none⟩) (Lib.compact zs).length cap) ∧ ∃ q, w' = Sort.putRow enc (Sort.ahead w q) blk off (Lib.compact zs ++ List.replicate (zs.length - (Lib.compact zs).length) zr).toArray)
    {e base : Nat} {ok : Nat → Prop} {v : Value} {xs : List α} {w : World} (h : (Kd.scalar enc h1).R e w base ok v xs) :
    Calls P f #[v] w fun e' w' => ∃ v', e' = .returned v' ∧ (Kd.scalar enc h1).R e w' base ok v' (Lib.compact xs) ∧ w.grownBy w' v.ownBlock := by
  obtain ⟨ho, hok⟩ := scalar_own h
  have ho' := ho
  rcases ho.2 with ⟨rfl, h0⟩ | ⟨g, cap, cur, rfl, _⟩
  · have hx : xs = [] := List.eq_nil_of_length_eq_zero h0
    subst hx
    refine (hnone none 0 w).mono ?_
    rintro e' w' ⟨rfl, rfl⟩
    exact ⟨_, rfl, h, World.grownBy.refl _ _⟩
  · obtain ⟨a1, a2, a3, a4⟩ := holds_of_row ho'
    have hm : xs.length ≤ 9223372036854775807 := (Kd.R_reads' h).2.2.2.1
    refine (hsome g 0 cap xs w a1 hm a4).mono ?_
    rintro e' w' ⟨rfl, q, rfl⟩
    have hl := Lib.compact_length_le xs
    have hd : (Lib.compact xs ++ List.replicate (xs.length - (Lib.compact xs).length) zr).length = xs.length := by rw [List.length_append, List.length_replicate]; omega
    have hr := row_of_put (enc := enc) ho' q #[] _ hd
    have hg := grown_put (g := g) (w := w) (enc := enc) q #[] (Lib.compact xs ++ List.replicate (xs.length - (Lib.compact xs).length) zr)
    rw [Sort.grow_empty] at hr hg
    have ht := own_take hr hl
    refine ⟨_, rfl, scalar_put ?_ (fun k hk => hok k (by simpa [Value.ownBlock] using hk)), hg⟩
    rw [Nat.mul_one, ← List.map_take, List.take_left] at ht
    exact ht
/-! all that is missed -/
theorem Sim.inv {i : It} {L : List It} {a : Ev × List ByteArray} {S : Lo} (h : Sim (i :: L) (a :: S)) : (i.x = a.1 ∧ ∀ s, s ∈ i.lost ↔ s ∈ a.2) ∧ Sim L S :=
  ⟨h.2 0 i a rfl rfl, by simpa using h.1, fun j x b hx hb => h.2 (j + 1) x b (by simpa using hx) (by simpa using hb)⟩
def lostLen (L : List It) : Nat := (L.map fun i => i.lost.length).sum
theorem lostLen_take (L : List It) {k : Nat} (hk : k < L.length) : lostLen (L.take (k + 1)) = lostLen (L.take k) + L[k].lost.length := by
  unfold lostLen
  rw [List.take_succ_eq_append_getElem hk, List.map_append, List.sum_append]; simp
theorem lostLen_le (L : List It) (k : Nat) : lostLen (L.take k) ≤ lostLen L := by
  have e : lostLen L = lostLen (L.take k) + lostLen (L.drop k) := by
    unfold lostLen
    rw [← List.sum_append, ← List.map_append, List.take_append_drop]
  omega
theorem lost_sum : ∀ {L : List It} {S : Lo}, Sim L S → (∀ i ∈ L, i.lost.Nodup) → lostLen L ≤ (namesS S).length
  | [], S, _, _ => by simp [lostLen]
  | i :: L, [], h, _ => by have := h.1; simp at this
  | i :: L, a :: S, h, hn => by
    obtain ⟨⟨_, h1⟩, h2⟩ := h.inv
    have ih := lost_sum h2 (fun j hj => hn j (List.mem_cons_of_mem _ hj))
    have h3 := (hn i (List.mem_cons_self ..)).length_le_of_subset (l₂ := a.2) (fun s hs => (h1 s).1 hs)
    unfold lostLen namesS at *
    simp only [List.map_cons, List.sum_cons, List.flatMap_cons, List.length_append]
    omega
theorem lost_mem {L : List It} {S : Lo} (h : Sim L S) (z : ByteArray) : (∃ i ∈ L, z ∈ i.lost) ↔ z ∈ namesS S := by
  unfold namesS
  rw [List.mem_flatMap]
  constructor
  · rintro ⟨i, hi, hz⟩
    obtain ⟨j, hj⟩ := List.mem_iff_getElem?.1 hi
    obtain ⟨a, ha, _, h2⟩ := h.at hj
    exact ⟨a, List.mem_of_getElem? ha, (h2 z).1 hz⟩
  · rintro ⟨a, ha, hz⟩
    obtain ⟨j, hj⟩ := List.mem_iff_getElem?.1 ha
    have hl : j < L.length := by rw [h.1]; exact (List.getElem?_eq_some_iff.1 hj).1
    obtain ⟨_, h2⟩ := h.2 j L[j] a (List.getElem?_eq_getElem hl) hj
    exact ⟨L[j], List.getElem_mem hl, (h2 z).2 hz⟩
end Go.Proofs.He
