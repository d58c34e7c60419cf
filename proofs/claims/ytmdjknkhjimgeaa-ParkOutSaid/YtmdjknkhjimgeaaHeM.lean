/- Words of this session's own: a map that counts; an entry that is laid and then stored (a map whose keys are structs). -/
import Derived.Test.YtmdjknkhjimgeaaHeK
import Derived.Test.YtmdjknkhjimgeaaHeC
import Derived.Test.YtmdjknkhjimgeaaHeG
import Derived.WideKeyEntry
import Derived.DeepKeys5
import Derived.Deep.RegionLaw
set_option linter.unusedVariables false
set_option linter.unusedSimpArgs false
set_option linter.unusedSectionVars false
namespace Go.Proofs.He
open Go Go.RowKit Go.Maps Go.ChangeMaps Go.Proofs.YtmdjknkhjimgeaaW.PrintWords
section
variable {P : Program} {k : TypeId} {α β : Type} [DecidableEq α] {κ : KK P k α} {ν : VK β} {M : List (α × β)} {w w1 w2 : World} {b : Nat}
/-- The keys of xs, each with how often it stands there. -/
structure Cnt {e : TypeId} (κ : KK P k α) (he : P.underlying e = some (.int .i64)) (w : World) (b : Nat) (xs : List α) (M : List (α × Int)) : Prop where
  own : Own κ (intV he) w b M
  mem : ∀ x, x ∈ M.map (·.1) ↔ x ∈ xs
  val : ∀ p ∈ M, p.2 = (xs.count p.1 : Int)
variable {e : TypeId} {he : P.underlying e = some (.int .i64)} {xs : List α} {C : List (α × Int)}
theorem Cnt.nil (κ : KK P k α) (he : P.underlying e = some (.int .i64)) (w : World) : Cnt κ he (w.alloc (.map #[] 0)) w.heap.size ([] : List α) [] := ⟨Own.made _ _ _, by simp, by simp⟩
theorem Cnt.get (h : Cnt κ he w b xs C) (x : α) : getM C x 0 = (xs.count x : Int) := by
  by_cases hx : x ∈ C.map (·.1)
  · obtain ⟨p, hp, rfl⟩ := List.mem_map.1 hx
    rw [getM_mem h.own.nodup (x := p.1) (y := p.2) hp, h.val p hp]
  · rw [getM_not hx, List.count_eq_zero_of_not_mem (fun hm => hx ((h.mem x).2 hm))]; rfl
theorem Cnt.len (h : Cnt κ he w b xs C) : C.length ≤ xs.length := by
  have := h.own.nodup.length_le_of_subset (l₂ := xs) (fun z hz => (h.mem z).1 hz)
  simpa using this
theorem Cnt.put (h : Cnt κ he w b xs C) (x : α) (ho : Own κ (intV he) w1 b (putM C x ((xs.count x : Int) + 1))) : Cnt κ he w1 b (xs ++ [x]) (putM C x ((xs.count x : Int) + 1)) where
  own := ho
  mem z := by rw [keys_putM, h.mem, List.mem_append, List.mem_singleton]; exact Or.comm
  val p hp := by
    rcases List.mem_cons.1 hp with rfl | hp
    · simp [List.count_append]
    · obtain ⟨h1, h2⟩ := mem_delM.1 hp
      rw [h.val p h1, List.count_append, List.count_singleton]
      rw [if_neg (by simpa using fun e => h2 e.symm)]; simp
theorem Cnt.move (h : Cnt κ he w b xs C) (hm : w1.heap[b]? = w.heap[b]?) : Cnt κ he w1 b xs C := ⟨h.own.move hm, h.mem, h.val⟩
theorem Cnt.below (h : Cnt κ he w b xs C) (hb : Below w.heap.size w w1) : Cnt κ he w1 b xs C := h.move (hb.block b h.own.lt)
theorem Cnt.grown (h : Cnt κ he w b xs C) {row : Option Nat} (hg : w.grownBy w1 row) (hne : some b ≠ row) : Cnt κ he w1 b xs C := h.move (hg.block b h.own.lt hne)

theorem run_mget (κ : KK P k α) (ν : VK β) {t e : TypeId} (ht : P.underlying t = some (.map k e)) (y0 : β) (hy0 : ν.ok y0) (hz : (zeroValue e).run P w = .ok (ν.val y0) w) (hown : Own κ ν w b M) (kx : α) (hkx : κ.ok kx) :
    (Instr.lookup t (.map (some b)) (κ.val kx) false).run P w = .ok (ν.val (getM M kx y0)) w := by
  obtain ⟨D, ho, hS⟩ := hown
  obtain ⟨v, ps, hrun, hv⟩ := ho.lookup κ.K ht hz (ν.of hy0) (κ.of hkx)
  obtain ⟨y, _, rfl, hy⟩ := ν.inv hv
  have : y = getM M kx y0 := by
    injection hy with hy _
    refine ν.inj (hy.symm.trans ?_)
    by_cases h : kx ∈ M.map (·.1)
    · obtain ⟨p, hp, rfl⟩ := List.mem_map.1 h
      rw [hS.at_ p hp, getM_mem hS.nodup (x := p.1) (y := p.2) hp]
    · rw [atKey_of_not_has (by rw [hS.has]; exact decide_eq_false h), getM_not h]
  subst this
  exact hrun
theorem run_mput (κ : KK P k α) (ν : VK β) {t e : TypeId} (ht : P.underlying t = some (.map k e)) (hown : Own κ ν w b M) (hn : M.length < maxLen) (kx : α) (y : β) (hkx : κ.ok kx) (hy : ν.ok y) :
    ∃ w', (Instr.mapUpdate t (.map (some b)) (κ.val kx) (ν.val y)).run P w = .ok () w' ∧ Own κ ν w' b (putM M kx y) ∧ w.grownBy w' (some b) := by
  obtain ⟨D, ho, hS⟩ := hown
  obtain ⟨w', h1, h2, h3⟩ := ho.update κ.K ht hn (κ.of hkx) (ν.of hy)
  exact ⟨w', h1, Own.of h2 (hS.put ho.isMap hkx hy), h3⟩
end
theorem wpList_cget {P : Program} {k e t : TypeId} {α : Type} [DecidableEq α] {κ : KK P k α} {he : P.underlying e = some (.int .i64)} {xs : List α} {C : List (α × Int)} {w : World} {b : Nat} {ops : Array Oper} {rest : List Oper} {o : Oper} {a : Act} {Q : Exit → Act → World → Prop}
    (hg : o.guard = none) (m x : Operand) (hop : o.op = Op.lookup t m x false) (ht : P.underlying t = some (.map k e)) (hz : (zeroValue e).run P w = .ok (.int .i64 0) w)
    (hm : a.eval m = .map (some b)) (h : Cnt κ he w b xs C) (kx : α) (hx : a.eval x = κ.val kx) (hkx : κ.ok kx) (n : Int) (hn : (xs.count kx : Int) = n)
    (hK : wpList P ops Q rest (a.put o.dst (.int .i64 n)) w) : wpList P ops Q (o :: rest) a w := by
  refine wpList_mget hg m x t hop κ (intV he) e ht 0 rfl hz b C hm h.own kx hx hkx ?_
  rw [h.get kx, hn]; exact hK
section
variable {P : Program} {k : TypeId} {α β : Type} [DecidableEq α] {κ : KK P k α} {ν : VK β} {M : List (α × β)} {w w1 w2 : World} {b : Nat}
theorem setBlock_twice (w : World) (b : Nat) (x y : Obj) : setBlock (setBlock w b x) b y = setBlock w b y := by
  simp [setBlock]
theorem getM_put (M : List (α × β)) (x : α) (y y0 : β) : getM (putM M x y) x y0 = y := by simp [getM, putM, List.find?_cons]
theorem run_entry1 {R : Value → Option (DataW Unit × List MemPlace)} {t e : TypeId} {es : Array MapEntry} {clock : Nat} (K : Keyed P k) (ht : P.underlying t = some (.map k e)) {z : Value} (hz : ∀ u : World, (zeroValue e).run P u = .ok z u) (hb : w.heap[b]? = some (.map es clock)) (F : WideElems.Fit P k R es clock) {key : Value} {kl : Lit} (hkey : keyOf P k key = some kl) :
    ∃ v0 st w1, (Instr.mapEntry t (.map (some b)) key).run P w = .ok (.tuple #[v0, goInt st]) w1 ∧ (Instr.mapUpdate t (.map (some b)) key v0).run P w = .ok () w1 ∧ (Instr.lookup t (.map (some b)) key false).run P w = .ok v0 w := by
  rcases K.find w hkey es.toList F.keys with ⟨h1, h2⟩ | ⟨j, e0, h1, h2, h3⟩
  · refine ⟨z, clock, setBlock w b (.map (es.push ⟨key, z, clock⟩) (clock + 1)), ?_, ?_, ?_⟩
    · simp [Instr.mapEntry, run_underlying ht, MapKept.run_getObj_map hb, K.check w false hkey, h1, hz, MapKept.run_setObj_map _ hb, Result.andThen, setBlock]
    · simp [Instr.mapUpdate, run_underlying ht, MapKept.run_getObj_map hb, K.check w false hkey, h1, MapKept.run_setObj_map _ hb, Result.andThen, setBlock]
    · simp [Instr.lookup, run_underlying ht, MapKept.run_getObj_map hb, K.check w es.isEmpty hkey, h1, hz, Result.andThen]
  · have hj : es[j]? = some e0 := by simpa using h2
    have hs : es.modify j (fun e' => { e' with key := key, val := e0.val }) = es.modify j (fun e' => { e' with key := key }) := by
      apply Array.ext
      · simp
      · intro i hi1 hi2
        simp only [Array.getElem_modify]
        split
        · rename_i e1
          subst e1
          have : es[j]'(by simpa using hi1) = e0 := by
            have := Array.getElem?_eq_getElem (xs := es) (i := j) (by simpa using hi1)
            rw [hj] at this; exact (Option.some.inj this).symm
          rw [this]
        · rfl
    refine ⟨e0.val, e0.born, setBlock w b (.map (es.modify j (fun e' => { e' with key := key })) clock), ?_, ?_, ?_⟩
    · simp [Instr.mapEntry, run_underlying ht, MapKept.run_getObj_map hb, K.check w false hkey, h1, hj, h3, K.stays w hkey, MapKept.run_setObj_map _ hb, Result.andThen, setBlock]
    · rw [← hs]
      simp [Instr.mapUpdate, run_underlying ht, MapKept.run_getObj_map hb, K.check w false hkey, h1, hj, h3, K.stays w hkey, MapKept.run_setObj_map _ hb, Result.andThen, setBlock]
    · simp [Instr.lookup, run_underlying ht, MapKept.run_getObj_map hb, K.check w es.isEmpty hkey, h1, hz, Result.andThen]
/-- An entry of a map of ours, laid and then stored. -/
theorem Own.entry {t e : TypeId} (κ : KK P k α) (ν : VK β) (KL : WideMaps.KeyLaw P k) (ht : P.underlying t = some (.map k e)) (y0 : β) (hy0 : ν.ok y0) (hz : ∀ u : World, (zeroValue e).run P u = .ok (ν.val y0) u) (hown : Own κ ν w b M) (hn : M.length < maxLen) (kx : α) (hkx : κ.ok kx) :
    ∃ st w1, (Instr.mapEntry t (.map (some b)) (κ.val kx)).run P w = .ok (.tuple #[ν.val (getM M kx y0), goInt st]) w1 ∧ (Instr.lookup t (.map (some b)) (κ.val kx) false).run P w1 = .ok (ν.val (getM M kx y0)) w1 ∧
      ∀ y, ν.ok y → ∃ w2, (Instr.entryStore t (.map (some b)) (goInt st) (ν.val y)).run P w1 = .ok () w2 ∧ Own κ ν w2 b (putM M kx y) ∧ w.grownBy w2 (some b) := by
  have hown' := hown
  obtain ⟨D, ⟨es, clock, hb, F, hs, hD⟩, hS⟩ := hown
  have hg := run_mget κ ν ht y0 hy0 (hz w) hown' kx hkx
  obtain ⟨v0, st, es1, clock1, h1, _, h3⟩ := WideElems.entry_then_store KL ht hz hb F (κ.of hkx)
  obtain ⟨v0', st', w1', g1, g2, g3⟩ := run_entry1 κ.K ht hz hb F (κ.of hkx)
  rw [g1] at h1
  injection h1 with h1 h1'
  injection h1 with h1
  have hv : v0' = v0 ∧ goInt st' = goInt st := by simpa using h1
  obtain ⟨rfl, hst⟩ := hv
  rw [hg] at g3
  injection g3 with g3 _
  subst g3
  have hyk : ν.ok (getM M kx y0) := by
    by_cases hx : kx ∈ M.map (·.1)
    · obtain ⟨p, hp, rfl⟩ := List.mem_map.1 hx
      rw [getM_mem hS.nodup (x := p.1) (y := p.2) hp]; exact hS.okv p hp
    · rw [getM_not hx]; exact hy0
  obtain ⟨w', u1, u2, _⟩ := run_mput κ ν ht hown' hn kx (getM M kx y0) hkx hyk
  rw [g2] at u1
  injection u1 with _ u1
  subst u1
  refine ⟨st, w1', by rw [g1, hst], ?_, fun y hy => ?_⟩
  · have := run_mget κ ν ht y0 hy0 (hz _) u2 kx hkx
    rw [getM_put] at this; exact this
  · obtain ⟨es', clock', a1, a2⟩ := h3 w1' (ν.val y) (by rw [h1']; exact heap_setBlock_same hb _)
    obtain ⟨w2, b1, b2, b3⟩ := run_mput κ ν ht hown' hn kx y hkx hy
    rw [a2] at b1
    injection b1 with _ b1
    subst b1
    refine ⟨_, a1, ?_, ?_⟩
    · rw [h1', setBlock_twice]; exact b2
    · rw [h1', setBlock_twice]; exact b3
end
theorem Cnt.entry {P : Program} {k e t : TypeId} {α : Type} [DecidableEq α] {κ : KK P k α} {he : P.underlying e = some (.int .i64)} {xs : List α} {C : List (α × Int)} {w : World} {b : Nat} (h : Cnt κ he w b xs C) (KL : WideMaps.KeyLaw P k) (ht : P.underlying t = some (.map k e))
    (hz : ∀ u : World, (zeroValue e).run P u = .ok (.int .i64 0) u) (hc : C.length < maxLen) (kx : α) (hkx : κ.ok kx) (v : Value) (hv : κ.val kx = v) (n : Int) (hn : (xs.count kx : Int) = n) (hw : (Lit.int .i64 (n + 1)).wf = true) :
    ∃ st w1 w2, (Instr.lookup t (.map (some b)) v false).run P w = .ok (.int .i64 n) w ∧ (Instr.mapEntry t (.map (some b)) v).run P w = .ok (.tuple #[.int .i64 n, .int .i64 st]) w1 ∧ (Instr.lookup t (.map (some b)) v false).run P w1 = .ok (.int .i64 n) w1 ∧
      (Instr.entryStore t (.map (some b)) (.int .i64 st) (.int .i64 (n + 1))).run P w1 = .ok () w2 ∧ (∃ C', Cnt κ he w2 b (xs ++ [kx]) C') ∧ w.grownBy w2 (some b) := by
  subst hv
  have hg := run_mget κ (intV he) ht 0 rfl (hz w) h.own kx hkx
  obtain ⟨st, w1, h1, h2, h3⟩ := Own.entry κ (intV he) KL ht 0 rfl hz h.own hc kx hkx
  rw [h.get kx, hn] at hg h1 h2
  obtain ⟨w2, h4, h5, h6⟩ := h3 (n + 1) hw
  exact ⟨st, w1, w2, hg, h1, h2, h4, ⟨_, h.put kx (by rw [hn]; exact h5)⟩, h6⟩
/-! a list put in order, each once -/
theorem compactUpTo_rise (d : Array Int) (hs : ∀ i j, i ≤ j → j < d.size → d[i]! ≤ d[j]!) : ∀ (m : Nat), m ≤ d.size → (Lib.compactUpTo d m).Pairwise (· < ·) ∧ (∀ x, x ∈ Lib.compactUpTo d m ↔ ∃ j, j < m ∧ d[j]! = x)
  | 0, _ => by simp [Lib.compactUpTo]
  | m + 1, hm => by
    obtain ⟨h1, h2⟩ := compactUpTo_rise d hs m (by omega)
    rw [Lib.compactUpTo_succ]
    cases hk : Lib.keeps d m with
    | true =>
      rw [if_pos rfl]
      have hne : m = 0 ∨ d[m]! ≠ d[m - 1]! := by simpa [Lib.keeps] using hk
      refine ⟨List.pairwise_append.2 ⟨h1, by simp, fun a ha b hb => ?_⟩, fun x => ?_⟩
      · rw [List.mem_singleton.1 hb]
        obtain ⟨j, hj, rfl⟩ := (h2 a).1 ha
        have e1 := hs j (m - 1) (by omega) (by omega)
        have e2 := hs (m - 1) m (by omega) (by omega)
        rcases hne with h | h <;> omega
      · rw [List.mem_append, List.mem_singleton, h2]
        constructor
        · rintro (⟨j, hj, rfl⟩ | rfl)
          · exact ⟨j, by omega, rfl⟩
          · exact ⟨m, by omega, rfl⟩
        · rintro ⟨j, hj, rfl⟩
          by_cases e : j = m
          · subst e; exact .inr rfl
          · exact .inl ⟨j, by omega, rfl⟩
    | false =>
      have hne : m ≠ 0 ∧ d[m]! = d[m - 1]! := by simpa [Lib.keeps] using hk
      rw [if_neg (by simp), List.append_nil]
      refine ⟨h1, fun x => ?_⟩
      rw [h2]
      constructor
      · rintro ⟨j, hj, rfl⟩; exact ⟨j, by omega, rfl⟩
      · rintro ⟨j, hj, rfl⟩
        by_cases e : j = m
        · subst e; exact ⟨j - 1, by omega, hne.2.symm⟩
        · exact ⟨j, by omega, rfl⟩
def riseL (l : List Int) : List Int := Lib.compact (l.mergeSort fun x y => decide (x ≤ y))
theorem riseL_spec (l : List Int) : (riseL l).Pairwise (· < ·) ∧ ∀ x, x ∈ riseL l ↔ x ∈ l := by
  unfold riseL Lib.compact
  obtain ⟨s, hs⟩ : ∃ s, s = l.mergeSort fun x y => decide (x ≤ y) := ⟨_, rfl⟩
  rw [← hs]
  have hp : s.Pairwise (fun x y => x ≤ y) := by
    have := List.pairwise_mergeSort (le := fun x y : Int => decide (x ≤ y)) (fun a b c h1 h2 => by simp at *; omega) (fun a b => by simp; omega) l
    rw [← hs] at this
    exact this.imp (fun h => by simpa using h)
  have hmem : ∀ x, x ∈ s ↔ x ∈ l := fun x => by rw [hs, (List.mergeSort_perm _ _).mem_iff]
  have hat : ∀ j, (h : j < s.length) → s.toArray[j]! = s[j] := fun j h => by rw [getElem!_pos s.toArray j (by simpa using h)]; simp
  obtain ⟨h1, h2⟩ := compactUpTo_rise s.toArray (fun i j hij hj => by
    have hj' : j < s.length := by simpa using hj
    rw [hat i (by omega), hat j hj']
    rcases Nat.lt_or_eq_of_le hij with h | rfl
    · exact List.pairwise_iff_getElem.1 hp i j (by omega) hj' h
    · omega) s.length (by simp)
  refine ⟨h1, fun x => ?_⟩
  rw [h2, ← hmem]
  constructor
  · rintro ⟨j, hj, rfl⟩; rw [hat j hj]; exact List.getElem_mem hj
  · intro hx; obtain ⟨j, hj, rfl⟩ := List.getElem_of_mem hx; exact ⟨j, hj, hat j hj⟩
theorem riseL_eq {l l' : List Int} (h : ∀ x, x ∈ l ↔ x ∈ l') : riseL l = riseL l' :=
  rises_eq (riseL_spec l).1 (riseL_spec l').1 (fun x => by rw [(riseL_spec l).2, (riseL_spec l').2, h])
theorem riseL_length (l : List Int) : (riseL l).length ≤ l.length := by
  unfold riseL; exact Nat.le_trans (Lib.compact_length_le _) (by rw [List.length_mergeSort]; exact Nat.le_refl _)
/-! a map that counts, gone through: what it has fewer than n times -/
structure Few {P : Program} {k e : TypeId} {α : Type} [DecidableEq α] (κ : KK P k α) (he : P.underlying e = some (.int .i64)) (f : α → Int) (C : List (α × Int)) (w : World) (b r base : Nat) (n : Int) (v : Value) (ys : List Int) (todo : List α) : Prop where
  it : Iter κ (intV he) w b r C todo
  row : (Kd.int .i64).R 3 w base (fun _ => True) v ys
  mem : ∀ z, z ∈ ys ↔ ∃ p ∈ C, p.1 ∉ todo ∧ p.2 < n ∧ f p.1 = z
  len : ys.length + todo.length ≤ C.length
section
variable {P : Program} {k e : TypeId} {α : Type} [DecidableEq α] {κ : KK P k α} {he : P.underlying e = some (.int .i64)} {f : α → Int} {C : List (α × Int)} {w w2 : World} {b r base : Nat} {n : Int} {v v2 : Value} {ys : List Int} {todo : List α}
theorem pair_one {C : List (α × Int)} (h : (C.map (·.1)).Nodup) {p q : α × Int} (hp : p ∈ C) (hq : q ∈ C) (e : p.1 = q.1) : p = q := by
  have h1 := getM_mem h (x := p.1) (y := p.2) hp 0
  have h2 := getM_mem h (x := q.1) (y := q.2) hq 0
  rw [e, h2] at h1
  exact Prod.ext e h1.symm
theorem Few.yes (h : Few κ he f C w b r base n v ys todo) {x : α} {y : Int} (hx : x ∈ todo) (hxy : (x, y) ∈ C) (hy : y < n) (hi : Iter κ (intV he) w2 b r C (strikeL todo x)) (hr : (Kd.int .i64).R 3 w2 base (fun _ => True) v2 (ys ++ [f x])) : Few κ he f C w2 b r base n v2 (ys ++ [f x]) (strikeL todo x) where
  it := hi
  row := hr
  mem z := by
    rw [List.mem_append, List.mem_singleton, h.mem]
    constructor
    · rintro (⟨p, h1, h2, h3⟩ | rfl)
      · exact ⟨p, h1, fun hm => h2 (mem_strikeL.1 hm).1, h3⟩
      · exact ⟨(x, y), hxy, fun hm => (mem_strikeL.1 hm).2 rfl, hy, rfl⟩
    · rintro ⟨p, h1, h2, h3, h4⟩
      by_cases e : p.1 = x
      · exact .inr (by rw [← h4, e])
      · exact .inl ⟨p, h1, fun hm => h2 (mem_strikeL.2 ⟨hm, e⟩), h3, h4⟩
  len := by have := h.len; have := length_strike1 h.it.nodup hx; rw [List.length_append]; simp; omega
theorem Few.no (h : Few κ he f C w b r base n v ys todo) {x : α} {y : Int} (hx : x ∈ todo) (hxy : (x, y) ∈ C) (hy : ¬ y < n) (hi : Iter κ (intV he) w2 b r C (strikeL todo x)) (hr : (Kd.int .i64).R 3 w2 base (fun _ => True) v ys) : Few κ he f C w2 b r base n v ys (strikeL todo x) where
  it := hi
  row := hr
  mem z := by
    rw [h.mem]
    constructor
    · rintro ⟨p, h1, h2, h3⟩; exact ⟨p, h1, fun hm => h2 (mem_strikeL.1 hm).1, h3⟩
    · rintro ⟨p, h1, h2, h3, h4⟩
      by_cases e : p.1 = x
      · have := pair_one h.it.own.nodup h1 hxy e
        subst this; exact absurd h3 hy
      · exact ⟨p, h1, fun hm => h2 (mem_strikeL.2 ⟨hm, e⟩), h3, h4⟩
  len := by have := h.len; have := length_strike1 h.it.nodup hx; omega
theorem Few.done {xs : List α} {w0 : World} (h : Few κ he f C w b r base n v ys []) (hC : Cnt κ he w0 b xs C) (z : Int) : z ∈ ys ↔ ∃ x ∈ xs, (xs.count x : Int) < n ∧ f x = z := by
  rw [h.mem]
  constructor
  · rintro ⟨p, h1, _, h3, h4⟩
    exact ⟨p.1, (hC.mem _).1 (List.mem_map.2 ⟨p, h1, rfl⟩), by rw [← hC.val p h1]; exact h3, h4⟩
  · rintro ⟨x, h1, h2, h3⟩
    obtain ⟨p, hp, rfl⟩ := List.mem_map.1 ((hC.mem x).2 h1)
    exact ⟨p, hp, by simp, by rw [hC.val p hp]; exact h2, h3⟩
end
end Go.Proofs.He
