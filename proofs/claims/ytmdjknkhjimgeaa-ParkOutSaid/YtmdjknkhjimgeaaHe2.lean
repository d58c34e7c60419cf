/- Words of this session's own: a map whose entries are known as a list. -/
import Derived.Test.YtmdjknkhjimgeaaHe1
import Derived.Maps.RangeWalk
set_option linter.unusedVariables false
set_option linter.unusedSimpArgs false
namespace Go.Proofs.He
open Go Go.RowKit Go.Maps

/-- A kind of keys. -/
structure KK (P : Program) (k : TypeId) (α : Type) where
  K : Keyed P k
  val : α → Value
  kl : α → Lit
  ok : α → Prop
  of : ∀ {x : α}, ok x → keyOf P k (val x) = some (kl x)
  inv : ∀ {v : Value} {l : Lit}, keyOf P k v = some l → ∃ x, ok x ∧ v = val x ∧ l = kl x
  inj : ∀ {x y : α}, kl x = kl y → x = y

/-- A kind of elements. -/
structure VK (β : Type) where
  R : Value → Option (DataW Unit × List MemPlace)
  val : β → Value
  dat : β → DataW Unit
  ok : β → Prop
  of : ∀ {y : β}, ok y → R (val y) = some (dat y, [])
  inv : ∀ {v : Value} {z : DataW Unit × List MemPlace}, R v = some z → ∃ y, ok y ∧ v = val y ∧ z = (dat y, [])
  inj : ∀ {x y : β}, dat x = dat y → x = y

def intK {P : Program} {k : TypeId} (hk : P.underlying k = some (.int .i64)) : KK P k Int where
  K := int_keyed hk
  val := Value.int .i64
  kl := Lit.int .i64
  ok x := (Lit.int .i64 x).wf = true
  of h := keyOf_int_mk hk h
  inv h := by obtain ⟨x, h1, h2, h3⟩ := Maps.keyOf_int_inv hk h; exact ⟨x, h3, h1, h2⟩
  inj h := by injection h

def strK {P : Program} {k : TypeId} (hk : P.underlying k = some .string) : KK P k ByteArray where
  K := string_keyed hk
  val := Value.string
  kl s := Lit.string s.data.toList
  ok s := s.size ≤ maxLen
  of h := WideMaps.keyOf_string_mk hk h
  inv {v l} h := by
    have h' := h
    cases v <;> simp [keyOf, hk, mapKey] at h
    obtain ⟨h1, h2⟩ := h
    exact ⟨_, h1, rfl, h2.symm⟩
  inj {x y} h := by
    injection h with h
    cases x; cases y; simp_all

def unitV : VK Unit where
  R := unitElem
  val _ := .agg #[]
  dat _ := .agg []
  ok _ := True
  of _ := unitElem_mk
  inv h := by obtain ⟨h1, h2⟩ := unitElem_inv h; exact ⟨(), trivial, h1, h2⟩
  inj _ := rfl

def intV {P : Program} {e : TypeId} (he : P.underlying e = some (.int .i64)) : VK Int where
  R := plainElem P e
  val := Value.int .i64
  dat x := .lit (.int .i64 x)
  ok x := (Lit.int .i64 x).wf = true
  of h := plainElem_int he h
  inv h := by obtain ⟨a, h1, h2, h3⟩ := plainElem_int_inv he h; exact ⟨a, h3, h1, h2⟩
  inj h := by injection h with h; injection h

def rawMap : Value → Option (DataW Unit × List MemPlace)
  | .map (some b) => some (.lit (.int .i64 b), [])
  | _ => none
/-- A map as an element: by its block. -/
def mapV : VK Nat where
  R := rawMap
  val b := .map (some b)
  dat b := .lit (.int .i64 b)
  ok _ := True
  of _ := rfl
  inv {v z} h := by
    unfold rawMap at h
    split at h
    · cases h; exact ⟨_, trivial, rfl, rfl⟩
    · cases h
  inj h := by injection h with h; injection h with _ h; exact Int.ofNat.inj h

section
variable {P : Program} {k : TypeId} {α β : Type} [DecidableEq α]

theorem KK.same (κ : KK P k α) {x : α} (hx : κ.ok x) (y : α) : (κ.kl x).sameKey (κ.kl y) = decide (x = y) := by
  by_cases h : x = y
  · subst h; rw [WideAt.sameKey_self (κ.K.key (κ.of hx))]; simp
  · rw [Maps.sameKey_ne (fun e => h (κ.inj e))]; simp [h]
theorem KK.same' (κ : KK P k α) {x : α} (hx : κ.ok x) (y : α) : (κ.kl y).sameKey (κ.kl x) = decide (y = x) := by
  by_cases h : y = x
  · subst h; rw [WideAt.sameKey_self (κ.K.key (κ.of hx))]; simp
  · rw [Maps.sameKey_ne (fun e => h (κ.inj e))]; simp [h]

structure Says (κ : KK P k α) (ν : VK β) (D : DataW Unit) (M : List (α × β)) : Prop where
  nodup : (M.map (·.1)).Nodup
  okk : ∀ p ∈ M, κ.ok p.1
  okv : ∀ p ∈ M, ν.ok p.2
  has : ∀ x, Maps.has D (κ.kl x) = decide (x ∈ M.map (·.1))
  at_ : ∀ p ∈ M, ∀ z, D.atKey (κ.kl p.1) z = ν.dat p.2

def strikeL (l : List α) (x : α) : List α := l.filter fun z => decide (z ≠ x)
def delM (M : List (α × β)) (x : α) : List (α × β) := M.filter fun p => decide (p.1 ≠ x)
def putM (M : List (α × β)) (x : α) (y : β) : List (α × β) := (x, y) :: delM M x
theorem mem_delM {M : List (α × β)} {x : α} {p : α × β} : p ∈ delM M x ↔ p ∈ M ∧ p.1 ≠ x := by simp [delM]
theorem keys_delM {M : List (α × β)} {x z : α} : z ∈ (delM M x).map (·.1) ↔ z ∈ M.map (·.1) ∧ z ≠ x := by
  simp only [List.mem_map, mem_delM]
  constructor
  · rintro ⟨p, ⟨h1, h2⟩, rfl⟩; exact ⟨⟨p, h1, rfl⟩, h2⟩
  · rintro ⟨⟨p, h1, rfl⟩, h2⟩; exact ⟨p, ⟨h1, h2⟩, rfl⟩
theorem keys_putM {M : List (α × β)} {x z : α} {y : β} : z ∈ (putM M x y).map (·.1) ↔ z = x ∨ z ∈ M.map (·.1) := by
  unfold putM
  rw [List.map_cons, List.mem_cons, keys_delM]
  constructor
  · rintro (h | ⟨h, _⟩)
    · exact .inl h
    · exact .inr h
  · rintro (h | h)
    · exact .inl h
    · by_cases e : z = x
      · exact .inl e
      · exact .inr ⟨h, e⟩
theorem nodup_delM {M : List (α × β)} (h : (M.map (·.1)).Nodup) (x : α) : ((delM M x).map (·.1)).Nodup := h.sublist ((List.filter_sublist).map _)
theorem nodup_putM {M : List (α × β)} (h : (M.map (·.1)).Nodup) (x : α) (y : β) : ((putM M x y).map (·.1)).Nodup :=
  List.nodup_cons.2 ⟨fun h' => (keys_delM.1 h').2 rfl, nodup_delM h x⟩

variable {κ : KK P k α} {ν : VK β} {D : DataW Unit} {M : List (α × β)} {w w1 : World} {b r n : Nat} {todo : List α}

theorem Says.nil (κ : KK P k α) (ν : VK β) : Says κ ν (.map []) [] := ⟨by simp, by simp, by simp, by simp [Maps.has], by simp⟩
theorem Says.put (h : Says κ ν D M) (hD : IsMap D) {x : α} {y : β} (hx : κ.ok x) (hy : ν.ok y) : Says κ ν (D.put (κ.kl x) (ν.dat y)) (putM M x y) where
  nodup := nodup_putM h.nodup x y
  okk p hp := by
    rcases List.mem_cons.1 hp with rfl | hp
    · exact hx
    · exact h.okk p (mem_delM.1 hp).1
  okv p hp := by
    rcases List.mem_cons.1 hp with rfl | hp
    · exact hy
    · exact h.okv p (mem_delM.1 hp).1
  has z := by
    by_cases e : z = x
    · subst e
      rw [has_put_same hD (κ.K.key (κ.of hx))]
      exact (decide_eq_true (keys_putM.2 (.inl rfl))).symm
    · rw [has_put_other (fun e' => e (κ.inj e')), h.has]
      have : z ∈ (putM M x y).map (·.1) ↔ z ∈ M.map (·.1) := by rw [keys_putM]; simp [e]
      simp only [this]
  at_ p hp z := by
    rcases List.mem_cons.1 hp with rfl | hp
    · exact atKey_put_same hD (κ.K.key (κ.of hx)) _ _
    · obtain ⟨h1, h2⟩ := mem_delM.1 hp
      rw [atKey_put_other (fun e' => h2 (κ.inj e'))]
      exact h.at_ p h1 z
theorem Says.del (h : Says κ ν D M) (x : α) : Says κ ν (D.del (κ.kl x)) (delM M x) where
  nodup := nodup_delM h.nodup x
  okk p hp := h.okk p (mem_delM.1 hp).1
  okv p hp := h.okv p (mem_delM.1 hp).1
  has z := by
    by_cases e : z = x
    · subst e
      rw [has_del_same]
      exact (decide_eq_false (fun h' => (keys_delM.1 h').2 rfl)).symm
    · rw [has_del_other (fun e' => e (κ.inj e')), h.has]
      have : z ∈ (delM M x).map (·.1) ↔ z ∈ M.map (·.1) := by rw [keys_delM]; simp [e]
      simp only [this]
  at_ p hp z := by
    obtain ⟨h1, h2⟩ := mem_delM.1 hp
    rw [atKey_del_other (fun e' => h2 (κ.inj e'))]
    exact h.at_ p h1 z

theorem tight {R : Value → Option (DataW Unit × List MemPlace)} (h : w.ownsMap P k R b n D) : w.ownsMap P k R b (Maps.size D) D := by
  obtain ⟨es, clock, hb, F, hs, rfl⟩ := h
  exact ⟨es, clock, hb, F, by simp [Maps.size, length_sorted], rfl⟩
theorem Says.size (h : Says κ ν D M) (ho : w.ownsMap P k ν.R b n D) : Maps.size D = M.length := by
  have hap := ho.entries κ.K
  obtain ⟨es, clock, hb, F, hs, rfl⟩ := ho
  obtain ⟨l, hl, hp, _⟩ := hap
  obtain ⟨rfl⟩ : ((es.toList.map (WideElems.rg P k ν.R)).foldr DataW.insert []) = l := by injection hl
  generalize hS : ((es.toList.map (WideElems.rg P k ν.R)).foldr DataW.insert []) = S at *
  have hkey : ∀ p ∈ S, ∃ x, κ.ok x ∧ p.1 = κ.kl x := by
    intro p hp'
    rw [← hS] at hp'
    obtain ⟨e, he, rfl⟩ := List.mem_map.1 (mem_sorted.1 hp')
    obtain ⟨y, hy⟩ := F.reads e he
    obtain ⟨x, h1, _, h2⟩ := κ.inv (WideElems.rd_key hy)
    exact ⟨x, h1, by rw [WideElems.rg_of hy]; exact h2⟩
  have hn1 : (S.map (·.1)).Nodup := by
    rw [List.Nodup, List.pairwise_map]; exact hp
  have hn2 : ((M.map (·.1)).map κ.kl).Nodup := by
    rw [List.Nodup, List.pairwise_map]
    exact h.nodup.imp (fun hne e => hne (κ.inj e))
  have hperm : (S.map (·.1)).Perm ((M.map (·.1)).map κ.kl) := by
    rw [List.perm_ext_iff_of_nodup hn1 hn2]
    intro l
    constructor
    · intro hl'
      obtain ⟨p, hp', rfl⟩ := List.mem_map.1 hl'
      obtain ⟨x, hx, e⟩ := hkey p hp'
      have : Maps.has (DataW.map S) (κ.kl x) = true := List.any_eq_true.2 ⟨p, hp', by rw [e]; exact WideAt.sameKey_self (κ.K.key (κ.of hx))⟩
      rw [h.has] at this
      rw [e]
      exact List.mem_map.2 ⟨x, of_decide_eq_true this, rfl⟩
    · intro hl'
      obtain ⟨x, hx, rfl⟩ := List.mem_map.1 hl'
      have : Maps.has (DataW.map S) (κ.kl x) = true := by rw [h.has]; exact decide_eq_true hx
      obtain ⟨p, hp', hs'⟩ := List.any_eq_true.1 this
      exact List.mem_map.2 ⟨p, hp', WideAt.sameKey_eq hs'⟩
  have := hperm.length_eq
  simpa [Maps.size] using this

/-- Block b is a map that holds just the entries M. -/
def Own (κ : KK P k α) (ν : VK β) (w : World) (b : Nat) (M : List (α × β)) : Prop := ∃ D, w.ownsMap P k ν.R b M.length D ∧ Says κ ν D M
theorem Own.of (h : w.ownsMap P k ν.R b n D) (hs : Says κ ν D M) : Own κ ν w b M := ⟨D, by rw [← hs.size h]; exact tight h, hs⟩
theorem Own.made (κ : KK P k α) (ν : VK β) (w : World) : Own κ ν (w.alloc (.map #[] 0)) w.heap.size [] := ⟨_, World.ownsMap_made _ _ _ _, Says.nil _ _⟩
theorem Own.lt (h : Own κ ν w b M) : b < w.heap.size := by obtain ⟨D, ho, _⟩ := h; exact ho.lt
theorem Own.move (h : Own κ ν w b M) (hm : w1.heap[b]? = w.heap[b]?) : Own κ ν w1 b M := by
  obtain ⟨D, ⟨es, clock, hb, F, hs, hD⟩, hS⟩ := h
  exact ⟨D, ⟨es, clock, hm.trans hb, F, hs, hD⟩, hS⟩
theorem Own.below (h : Own κ ν w b M) (hb : Below w.heap.size w w1) : Own κ ν w1 b M := h.move (hb.block b h.lt)
theorem Own.grown (h : Own κ ν w b M) {row : Option Nat} (hg : w.grownBy w1 row) (hne : some b ≠ row) : Own κ ν w1 b M := h.move (hg.block b h.lt hne)
theorem Own.nodup (h : Own κ ν w b M) : (M.map (·.1)).Nodup := by obtain ⟨D, _, hS⟩ := h; exact hS.nodup
theorem Own.okk (h : Own κ ν w b M) : ∀ p ∈ M, κ.ok p.1 := by obtain ⟨D, _, hS⟩ := h; exact hS.okk
theorem Own.perm {M' : List (α × β)} (h : Own κ ν w b M) (hp : M.Perm M') : Own κ ν w b M' := by
  obtain ⟨D, ho, hS⟩ := h
  refine ⟨D, by rw [← hp.length_eq]; exact ho, (hp.map _).nodup_iff.1 hS.nodup, fun p hp' => hS.okk p (hp.mem_iff.2 hp'), fun p hp' => hS.okv p (hp.mem_iff.2 hp'), fun x => ?_, fun p hp' => hS.at_ p (hp.mem_iff.2 hp')⟩
  rw [hS.has]
  simp only [(hp.map (·.1)).mem_iff]

/-- The loop over a map is under way: todo is still to come. -/
def Iter (κ : KK P k α) (ν : VK β) (w : World) (b r : Nat) (M : List (α × β)) (todo : List α) : Prop :=
  ∃ n D left cnt, w.ranges P k ν.R b r n D left cnt ∧ Says κ ν D M ∧ todo.Nodup ∧ (∀ x, left (κ.kl x) = decide (x ∈ todo)) ∧ (∀ x ∈ todo, x ∈ M.map (·.1))
theorem Iter.own (h : Iter κ ν w b r M todo) : Own κ ν w b M := by obtain ⟨n, D, left, cnt, hr, hs, _⟩ := h; exact Own.of hr.owns hs
theorem Iter.lt (h : Iter κ ν w b r M todo) : r < w.heap.size := by obtain ⟨n, D, left, cnt, hr, hs, _⟩ := h; exact hr.lt
theorem Iter.ne (h : Iter κ ν w b r M todo) : r ≠ b := by obtain ⟨n, D, left, cnt, hr, hs, _⟩ := h; exact hr.ne
theorem Iter.move (h : Iter κ ν w b r M todo) (hm : w1.heap[b]? = w.heap[b]?) (hm' : w1.heap[r]? = w.heap[r]?) : Iter κ ν w1 b r M todo := by
  obtain ⟨n, D, left, cnt, ⟨es, clock, since, seen, c0, hb, F, hs, hD, hr, hx⟩, hS⟩ := h
  exact ⟨n, D, left, cnt, ⟨es, clock, since, seen, c0, hm.trans hb, F, hs, hD, hm'.trans hr, hx⟩, hS⟩
theorem Iter.below (h : Iter κ ν w b r M todo) (hb : Below w.heap.size w w1) : Iter κ ν w1 b r M todo := h.move (hb.block b h.own.lt) (hb.block r h.lt)
theorem Iter.grown (h : Iter κ ν w b r M todo) {row : Option Nat} (hg : w.grownBy w1 row) (hne : some b ≠ row) (hne' : some r ≠ row) : Iter κ ν w1 b r M todo :=
  h.move (hg.block b h.own.lt hne) (hg.block r h.lt hne')

def getM (M : List (α × β)) (x : α) (y0 : β) : β := match M.find? (fun p => decide (p.1 = x)) with | some p => p.2 | none => y0
theorem getM_mem {M : List (α × β)} {x : α} {y : β} (hn : (M.map (·.1)).Nodup) (h : (x, y) ∈ M) (y0 : β) : getM M x y0 = y := by
  unfold getM
  cases hf : M.find? (fun p => decide (p.1 = x)) with
  | none => rw [List.find?_eq_none] at hf; exact absurd (decide_eq_true (rfl : ((x, y) : α × β).1 = x)) (hf _ h)
  | some p =>
    have h1 := List.find?_some hf
    have h2 := List.mem_of_find?_eq_some hf
    simp only [decide_eq_true_eq] at h1
    have : ∀ (l : List (α × β)), (l.map (·.1)).Nodup → ∀ p ∈ l, ∀ q ∈ l, p.1 = q.1 → p = q := by
      intro l
      induction l with
      | nil => simp
      | cons a l ih =>
        intro hn p hp q hq he
        rw [List.map_cons, List.nodup_cons] at hn
        rcases List.mem_cons.1 hp with e1 | hp' <;> rcases List.mem_cons.1 hq with e2 | hq'
        · rw [e1, e2]
        · exact absurd (List.mem_map.2 ⟨q, hq', by rw [← he, e1]⟩) hn.1
        · exact absurd (List.mem_map.2 ⟨p, hp', by rw [he, e2]⟩) hn.1
        · exact ih hn.2 p hp' q hq' he
    rw [this M hn p h2 (x, y) h h1]
theorem getM_not {M : List (α × β)} {x : α} (h : x ∉ M.map (·.1)) (y0 : β) : getM M x y0 = y0 := by
  unfold getM
  have : M.find? (fun p => decide (p.1 = x)) = none := by
    rw [List.find?_eq_none]
    intro p hp e
    exact h (List.mem_map.2 ⟨p, hp, by simpa using e⟩)
  rw [this]

theorem Own.off (h : Own κ ν w b M) {c : Nat} {cells : Array Value} {e : TypeId} {fr : Nat × Nat} (hc : w.heap[c]? = some (.cells cells e fr)) : c ≠ b := by
  obtain ⟨D, ⟨es, clock, hb, _⟩, _⟩ := h
  rintro rfl
  rw [hb] at hc; cases hc
theorem Iter.off (h : Iter κ ν w b r M todo) {c : Nat} {cells : Array Value} {e : TypeId} {fr : Nat × Nat} (hc : w.heap[c]? = some (.cells cells e fr)) : c ≠ r := by
  obtain ⟨n, D, left, cnt, ⟨es, clock, since, seen, c0, hb, F, hs, hD, hr, hx⟩, hS⟩ := h
  rintro rfl
  rw [hr] at hc; cases hc
theorem Own.obj (h : Own κ ν w b M) : ∃ es c, w.heap[b]? = some (.map es c) := by
  obtain ⟨D, ⟨es, clock, hb, _⟩, _⟩ := h
  exact ⟨es, clock, hb⟩
theorem Iter.obj (h : Iter κ ν w b r M todo) : ∃ a s n c, w.heap[r]? = some (.mapIter a s n c) := by
  obtain ⟨n, D, left, cnt, ⟨es, clock, since, seen, c0, hb, F, hs, hD, hr, hx⟩, hS⟩ := h
  exact ⟨_, _, _, _, hr⟩
theorem Own.ne_iter {k' : TypeId} {α' β' : Type} [DecidableEq α'] {κ' : KK P k' α'} {ν' : VK β'} {b' : Nat} {M' : List (α' × β')} {todo' : List α'} (h : Own κ ν w b M) (h' : Iter κ' ν' w b' r M' todo') : b ≠ r := by
  obtain ⟨es, c, h1⟩ := h.obj
  obtain ⟨_, _, _, _, h2⟩ := h'.obj
  rintro rfl
  rw [h1] at h2; cases h2
theorem Iter.left_grown (h : Iter κ ν w b r M todo) {row : Option Nat} (hg : w.grownBy w1 row) (hne : some b ≠ row) (hne' : some r ≠ row) : w1.rangeLeft b r = w.rangeLeft b r := by
  simp only [World.rangeLeft, hg.block b h.own.lt hne, hg.block r h.lt hne']
theorem Iter.nodup (h : Iter κ ν w b r M todo) : todo.Nodup := by obtain ⟨n, D, left, cnt, hr, hs, hn, _⟩ := h; exact hn
theorem Iter.sub (h : Iter κ ν w b r M todo) : ∀ x ∈ todo, x ∈ M.map (·.1) := by obtain ⟨n, D, left, cnt, hr, hs, hn, _, h⟩ := h; exact h
theorem mem_strikeL {l : List α} {x z : α} : z ∈ strikeL l x ↔ z ∈ l ∧ z ≠ x := by simp [strikeL]
theorem nodup_strikeL {l : List α} (h : l.Nodup) (x : α) : (strikeL l x).Nodup := h.sublist List.filter_sublist
theorem length_strike1 : ∀ {l : List α} {x : α}, l.Nodup → x ∈ l → (strikeL l x).length + 1 = l.length
  | [], _, _, h => by simp at h
  | y :: l, x, hn, h => by
    obtain ⟨h1, h2⟩ := List.nodup_cons.1 hn
    by_cases e : y = x
    · subst e
      have : l.filter (fun z => decide (z ≠ y)) = l := List.filter_eq_self.2 (fun z hz => by simp; rintro rfl; exact h1 hz)
      unfold strikeL
      rw [List.filter_cons_of_neg (by simp), this, List.length_cons]
    · rcases List.mem_cons.1 h with rfl | h
      · exact absurd rfl e
      · have ih := length_strike1 h2 h
        unfold strikeL at ih ⊢
        rw [List.filter_cons_of_pos (by simpa using e), List.length_cons, List.length_cons, ih]

/-! at the operations -/
variable {ops : Array Oper} {rest : List Oper} {o : Oper} {a : Act} {Q : Exit → Act → World → Prop}
theorem wpList_mput (hg : o.guard = none) (m x v : Operand) (t : TypeId) (hop : o.op = Op.mapUpdate t m x v) (κ : KK P k α) (ν : VK β) (e : TypeId) (ht : P.underlying t = some (.map k e)) (b : Nat) (M : List (α × β))
    (hm : a.eval m = .map (some b)) (hown : Own κ ν w b M) (hn : M.length < maxLen) (kx : α) (y : β) (hx : a.eval x = κ.val kx) (hv : a.eval v = ν.val y) (hkx : κ.ok kx) (hy : ν.ok y)
    (hK : ∀ w', Own κ ν w' b (putM M kx y) → w.grownBy w' (some b) → wpList P ops Q rest (a.put o.dst undef) w') : wpList P ops Q (o :: rest) a w := by
  obtain ⟨D, ho, hS⟩ := hown
  exact wpList_mapUpdate_own w hg m x v t hop k e κ.K ht ν.R b M.length D hm ho hn _ _ _ hx hv (κ.of hkx) _ [] (ν.of hy) (fun w' h1 h2 => hK w' (Own.of h1 (hS.put ho.isMap hkx hy)) h2)
theorem wpList_mhas (hg : o.guard = none) (m x : Operand) (t : TypeId) (hop : o.op = Op.lookup t m x true) (κ : KK P k α) (e : TypeId) (ht : P.underlying t = some (.map k e)) (hz : (zeroValue e).run P w = .ok (.agg #[]) w) (b : Nat) (M : List (α × Unit))
    (hm : a.eval m = .map (some b)) (hown : Own κ unitV w b M) (kx : α) (hx : a.eval x = κ.val kx) (hkx : κ.ok kx)
    (hK : wpList P ops Q rest (a.put o.dst (.tuple #[.agg #[], .bool (decide (kx ∈ M.map (·.1)))])) w) : wpList P ops Q (o :: rest) a w := by
  obtain ⟨D, ho, hS⟩ := hown
  exact wpList_lookup_own_unit w hg m x t hop k e κ.K ht hz b M.length D hm ho _ _ hx (κ.of hkx) (by rw [hS.has]; exact hK)
theorem wpList_mget (hg : o.guard = none) (m x : Operand) (t : TypeId) (hop : o.op = Op.lookup t m x false) (κ : KK P k α) (ν : VK β) (e : TypeId) (ht : P.underlying t = some (.map k e)) (y0 : β) (hy0 : ν.ok y0) (hz : (zeroValue e).run P w = .ok (ν.val y0) w) (b : Nat) (M : List (α × β))
    (hm : a.eval m = .map (some b)) (hown : Own κ ν w b M) (kx : α) (hx : a.eval x = κ.val kx) (hkx : κ.ok kx)
    (hK : wpList P ops Q rest (a.put o.dst (ν.val (getM M kx y0))) w) : wpList P ops Q (o :: rest) a w := by
  obtain ⟨D, ho, hS⟩ := hown
  refine wpList_plain hg fun K' hK' => ?_
  obtain ⟨v, ps, hrun, hv⟩ := ho.lookup κ.K ht hz (ν.of hy0) (κ.of hkx)
  obtain ⟨y, _, rfl, hy⟩ := ν.inv hv
  have : y = getM M kx y0 := by
    injection hy with hy _
    refine ν.inj (hy.symm.trans ?_)
    by_cases h : kx ∈ M.map (·.1)
    · obtain ⟨p, hp, rfl⟩ := List.mem_map.1 h
      rw [hS.at_ p hp, getM_mem hS.nodup (x := p.1) (y := p.2) hp]
    · rw [atKey_of_not_has (by rw [hS.has]; exact decide_eq_false h), getM_not h]
  subst this
  unfold Oper.wp
  simp [execOp, hop, hm, hx, hrun, Result.andThen]
  exact hK' _ _ hK
theorem wpList_mdel (hg : o.guard = none) (m x : Operand) (t : TypeId) (hop : o.op = Op.call { callee := Callee.builtin Builtin.delete, args := #[m, x], argTypes := #[t, k] }) (κ : KK P k α) (ν : VK β) (e : TypeId) (ht : P.underlying t = some (.map k e)) (b : Nat) (M : List (α × β))
    (hm : a.eval m = .map (some b)) (hown : Own κ ν w b M) (kx : α) (hx : a.eval x = κ.val kx) (hkx : κ.ok kx)
    (hK : ∀ w', Own κ ν w' b (delM M kx) → w.grownBy w' (some b) → w'.heap.size = w.heap.size → wpList P ops Q rest (a.put o.dst (.tuple #[])) w') : wpList P ops Q (o :: rest) a w := by
  obtain ⟨D, ho, hS⟩ := hown
  refine wpList_delete_own w hg m x t k hop e κ.K ht ν.R b M.length D hm ho _ _ hx (κ.of hkx) (fun w' h1 h2 => hK w' (Own.of h1 (hS.del kx)) h2.grown ?_)
  obtain ⟨es, clock, es', clock', hb, rfl⟩ := h2
  simp [ChangeMaps.setBlock]
theorem wpList_mlen (hg : o.guard = none) (m : Operand) (t : TypeId) (hop : o.op = Op.call { callee := Callee.builtin Builtin.len, args := #[m], argTypes := #[t] }) (κ : KK P k α) (ν : VK β) (e : TypeId) (ht : P.underlying t = some (.map k e)) (b : Nat) (M : List (α × β))
    (hm : a.eval m = .map (some b)) (hown : Own κ ν w b M) (hK : wpList P ops Q rest (a.put o.dst (.int .i64 M.length)) w) : wpList P ops Q (o :: rest) a w := by
  obtain ⟨D, ho, hS⟩ := hown
  exact wpList_len_own w hg m t hop k e ht ν.R b M.length D hm ho (by rw [hS.size ho]; exact hK)
theorem wpList_mrange (hg : o.guard = none) (m : Operand) (t : TypeId) (hop : o.op = Op.range t m) (κ : KK P k α) (ν : VK β) (e : TypeId) (ht : P.underlying t = some (.map k e)) (b : Nat) (M : List (α × β))
    (hm : a.eval m = .map (some b)) (hown : Own κ ν w b M)
    (hK : ∀ w', Iter κ ν w' b w.heap.size M (M.map (·.1)) → w.grownBy w' none → w'.heap.size = w.heap.size + 1 → wpList P ops Q rest (a.put o.dst (.pointer (some ⟨w.heap.size, 0, none⟩))) w') : wpList P ops Q (o :: rest) a w := by
  obtain ⟨D, ho, hS⟩ := hown
  exact wpList_range_own w hg m t hop k e κ.K ht ν.R b M.length D hm ho (fun w' h1 h2 h3 => hK w' ⟨_, D, _, _, h1, hS, hS.nodup, hS.has, fun x hx => hx⟩ h2 h3)
theorem wpList_mnext (hg : o.guard = none) (it : Operand) (hop : o.op = Op.next it false) (κ : KK P k α) (ν : VK β) (b r : Nat) (M : List (α × β))
    (hit : a.eval it = .pointer (some ⟨r, 0, none⟩)) (h : Iter κ ν w b r M todo)
    (hDone : todo = [] → wpList P ops Q rest (a.put o.dst (.tuple #[.bool false])) w)
    (hMore : ∀ (x : α) (y : β) (w' : World), x ∈ todo → (x, y) ∈ M → Iter κ ν w' b r M (strikeL todo x) → w'.rangeLeft b r < w.rangeLeft b r →
      w.grownBy w' (some r) → w'.heap.size = w.heap.size → (Instr.entry (.pointer (some ⟨r, 0, none⟩))).run P w' = .ok (.tuple #[κ.val x, ν.val y]) w' → wpList P ops Q rest (a.put o.dst (.tuple #[.bool true, κ.val x, ν.val y])) w') :
    wpList P ops Q (o :: rest) a w := by
  obtain ⟨n, D, left, cnt, hr, hS, hnd, hleft, hsub⟩ := h
  refine wpList_next_ranges w hg it hop k κ.K ν.R κ.val ν.val (fun key kl hkey => by obtain ⟨x, _, h, _⟩ := κ.inv hkey; exact ⟨x, h⟩) (fun v y hv => by obtain ⟨c, _, h, _⟩ := ν.inv hv; exact ⟨c, h⟩) b r n D left cnt hit hr ?_ ?_
  · intro _ hl
    refine hDone (List.eq_nil_iff_forall_not_mem.2 (fun x hx => ?_))
    have := hleft x
    rw [hl, decide_eq_true hx] at this
    cases this
  · intro x c kl y w' cnt' hkey hlk hv hat hrg hlt hgr hsz hen
    obtain ⟨x', hx', e1, rfl⟩ := κ.inv hkey
    have hxx : x = x' ∨ True := .inr trivial
    obtain ⟨c', hc', e2, rfl⟩ := ν.inv hv
    rw [e1, e2] at hen ⊢
    have hmem : x' ∈ todo := by rw [hleft] at hlk; exact of_decide_eq_true hlk
    have hM : (x', c') ∈ M := by
      obtain ⟨p, hp, rfl⟩ := List.mem_map.1 (hsub x' hmem)
      have := (hS.at_ p hp (.agg [])).symm.trans (hat (.agg []))
      rw [← ν.inj this]; exact hp
    refine hMore x' c' w' hmem hM ⟨n, D, _, cnt', hrg, hS, nodup_strikeL hnd _, fun z => ?_, fun z hz => hsub z (mem_strikeL.1 hz).1⟩ (by rw [hrg.left_eq, hr.left_eq]; exact hlt) hgr hsz hen
    rw [hleft, κ.same' hx' z]
    by_cases h1 : z ∈ todo <;> by_cases h2 : z = x' <;> simp [mem_strikeL, h1, h2]
/-- 'delete' in the round. -/
theorem wpList_mdelr (hg : o.guard = none) (m x : Operand) (t : TypeId) (hop : o.op = Op.call { callee := Callee.builtin Builtin.delete, args := #[m, x], argTypes := #[t, k] }) (κ : KK P k α) (ν : VK β) (e : TypeId) (ht : P.underlying t = some (.map k e)) (b r : Nat) (M : List (α × β))
    (hm : a.eval m = .map (some b)) (h : Iter κ ν w b r M todo) (kx : α) (hx : a.eval x = κ.val kx) (hkx : κ.ok kx)
    (hK : ∀ w', Iter κ ν w' b r (delM M kx) (strikeL todo kx) → w'.rangeLeft b r ≤ w.rangeLeft b r → w.grownBy w' (some b) → w'.heap.size = w.heap.size → wpList P ops Q rest (a.put o.dst (.tuple #[])) w') : wpList P ops Q (o :: rest) a w := by
  obtain ⟨n, D, left, cnt, hr, hS, hnd, hleft, hsub⟩ := h
  refine wpList_delete_ranges w hg m x t k hop e κ.K ht ν.R b r n D left cnt hm hr _ _ hx (κ.of hkx) (fun w' cnt' h1 h2 h3 => hK w' ⟨n, _, _, cnt', h1, hS.del kx, nodup_strikeL hnd _, fun z => ?_, fun z hz => ?_⟩ (by rw [h1.left_eq, hr.left_eq]; exact h2) h3.grown ?_)
  · rw [hleft, κ.same' hkx z]
    by_cases h1 : z ∈ todo <;> by_cases h2 : z = kx <;> simp [mem_strikeL, h1, h2]
  · obtain ⟨h4, h5⟩ := mem_strikeL.1 hz
    exact keys_delM.2 ⟨hsub z h4, h5⟩
  · obtain ⟨es, clock, es', clock', hb, rfl⟩ := h3
    simp [ChangeMaps.setBlock]
end
end Go.Proofs.He
