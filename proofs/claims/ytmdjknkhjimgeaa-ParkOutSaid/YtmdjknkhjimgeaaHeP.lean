/- Words of this session's own: a lot: a row of pointers to structs that hold an event and a map each (park). -/
import Derived.Test.YtmdjknkhjimgeaaHeM
set_option linter.unusedVariables false
set_option linter.unusedSimpArgs false
set_option linter.unusedSectionVars false
namespace Go.Proofs.He
open Go Go.RowKit Go.Maps Go.ChangeMaps Go.Proofs.YtmdjknkhjimgeaaW.PrintWords
/-- Outside F all that lay, lies. -/
structure Kept (F : Nat → Prop) (w w' : World) : Prop where
  os : w'.os = w.os
  tape : w'.tape = w.tape
  output : w'.output = w.output
  size : w.heap.size ≤ w'.heap.size
  block : ∀ k, k < w.heap.size → ¬ F k → w'.heap[k]? = w.heap[k]?
theorem Kept.refl (F : Nat → Prop) (w : World) : Kept F w w := ⟨rfl, rfl, rfl, Nat.le_refl _, fun _ _ _ => rfl⟩
theorem Kept.of_below {F : Nat → Prop} {w w' : World} (h : Below w.heap.size w w') : Kept F w w' := ⟨h.os, h.tape, h.output, h.size, fun k hk _ => h.block k hk⟩
theorem Kept.of_grown {F : Nat → Prop} {w w' : World} {row : Option Nat} (h : w.grownBy w' row) (hF : ∀ k, row = some k → F k) : Kept F w w' :=
  ⟨h.os, h.tape, h.output, h.size, fun k hk hn => h.block k hk (fun e => hn (hF k e.symm))⟩
theorem Kept.trans {F F' : Nat → Prop} {a b c : World} (h : Kept F a b) (h' : Kept F' b c) (hF : ∀ k, k < a.heap.size → F' k → F k) : Kept F a c :=
  ⟨h'.os.trans h.os, h'.tape.trans h.tape, h'.output.trans h.output, Nat.le_trans h.size h'.size, fun k hk hn => (h'.block k (Nat.lt_of_lt_of_le hk h.size) (fun e => hn (hF k hk e))).trans (h.block k hk hn)⟩
theorem Kept.below {F : Nat → Prop} {a w w' : World} {B : Nat} (hb : Below B a w) (h : Kept F w w') (hB : B ≤ w.heap.size) (hF : ∀ k, k < w.heap.size → F k → B ≤ k) : Below B a w' :=
  ⟨h.os.trans hb.os, h.tape.trans hb.tape, h.output.trans hb.output, Nat.le_trans hb.size h.size, fun k hk => (h.block k (by omega) (fun e => by have := hF k (by omega) e; omega)).trans (hb.block k hk)⟩
theorem Kept.setCell {F : Nat → Prop} (w : World) (a : Addr) (u : Value) (h : F a.block) : Kept F w (w.setCell a u) :=
  ⟨rfl, rfl, rfl, by simp [World.setCell], fun k _ hn => Below.heap_setCell w a u k (fun e => hn (e ▸ h))⟩
/-- The footprint has grown by new blocks alone. -/
def Grew (w : World) (Z Z' : Nat → Prop) : Prop := ∀ k, k < w.heap.size → Z' k → Z k
/-- An event of which but three fields are set. -/
structure Ev where
  id : ByteArray
  ty : ByteArray
  time : Int
def evL (x : Ev) : List Value := [.string x.id, .string x.ty, .string ⟨#[]⟩, .bool false, .string ⟨#[]⟩, .string ⟨#[]⟩, .slice none 0 0, .slice none 0 0, .int .i64 0, .int .i64 x.time, .int .i64 0, .int .i64 0, .string ⟨#[]⟩, .slice none 0 0, .slice none 0 0]
def evV (x : Ev) : Value := .agg #[.string x.id, .string x.ty, .string ⟨#[]⟩, .bool false, .string ⟨#[]⟩, .string ⟨#[]⟩, .slice none 0 0, .slice none 0 0, .int .i64 0, .int .i64 x.time, .int .i64 0, .int .i64 0, .string ⟨#[]⟩, .slice none 0 0, .slice none 0 0]
theorem evL_one (x : Ev) : ∀ u ∈ evL x, u.oneCell' = true := by
  intro u hu
  simp only [evL, List.mem_cons, List.not_mem_nil, or_false] at hu
  rcases hu with h | h | h | h | h | h | h | h | h | h | h | h | h | h | h <;> subst h <;> rfl
/-- One that waits: where it lies, and what it misses. -/
structure It where
  x : Ev
  blk : Nat
  mp : Nat
  lost : List ByteArray
instance : Inhabited It := ⟨⟨⟨⟨#[]⟩, ⟨#[]⟩, 0⟩, 0, 0, []⟩⟩
def It.ptr (i : It) : Value := .pointer (some ⟨i.blk, 0, none⟩)
abbrev Lo := List (Ev × List ByteArray)
def keyed (l : List ByteArray) : List (ByteArray × Unit) := l.map fun s => (s, ())
theorem keyed_keys (l : List ByteArray) : (keyed l).map (·.1) = l := by simp [keyed, Function.comp_def]
section
variable {P : Program} {k : TypeId} {κ : KK P k ByteArray} {tL tP tO : TypeId} {w w1 : World} {Z Z' : Nat → Prop} {p : Nat} {v : Value} {L : List It}
structure LotAt (κ : KK P k ByteArray) (tL tP tO : TypeId) (w : World) (Z : Nat → Prop) (p : Nat) (v : Value) (L : List It) : Prop where
  obj : w.heap[p]? = some (.cells #[v] tL (0, 0))
  zp : Z p
  row : w.ownsRow 0 tP 1 v L.length (L.map It.ptr)
  zrow : ∀ g, v.ownBlock = some g → Z g
  one : ∀ i ∈ L, w.heap[i.blk]? = some (.cells (evL i.x ++ [Value.map (some i.mp)]).toArray tO (0, 0)) ∧ Z i.blk
  map : ∀ i ∈ L, Own κ unitV w i.mp (keyed i.lost) ∧ Z i.mp
  nd : (L.map It.mp).Nodup
theorem LotAt.lt (h : LotAt κ tL tP tO w Z p v L) : p < w.heap.size := (Array.getElem?_eq_some_iff.1 h.obj).1
theorem LotAt.step (h : LotAt κ tL tP tO w Z p v L) (hm : ∀ g, Z g → g < w.heap.size → w1.heap[g]? = w.heap[g]?) : LotAt κ tL tP tO w1 Z p v L where
  obj := (hm p h.zp h.lt).trans h.obj
  zp := h.zp
  row := own_move h.row (fun g hg => hm g (h.zrow g hg) (own_lt h.row g hg))
  zrow := h.zrow
  one i hi := ⟨(hm _ (h.one i hi).2 (Array.getElem?_eq_some_iff.1 (h.one i hi).1).1).trans (h.one i hi).1, (h.one i hi).2⟩
  map i hi := ⟨(h.map i hi).1.move (hm _ (h.map i hi).2 (h.map i hi).1.lt), (h.map i hi).2⟩
  nd := h.nd
theorem LotAt.below (h : LotAt κ tL tP tO w Z p v L) (hb : Below w.heap.size w w1) : LotAt κ tL tP tO w1 Z p v L := h.step (fun g _ hg => hb.block g hg)
theorem LotAt.kept {F : Nat → Prop} (h : LotAt κ tL tP tO w Z p v L) (hk : Kept F w w1) (hF : ∀ g, g < w.heap.size → Z g → ¬ F g) : LotAt κ tL tP tO w1 Z p v L := h.step (fun g hz hg => hk.block g hg (hF g hg hz))
theorem LotAt.wide (h : LotAt κ tL tP tO w Z p v L) (hz : ∀ g, Z g → Z' g) : LotAt κ tL tP tO w Z' p v L :=
  ⟨h.obj, hz _ h.zp, h.row, fun g hg => hz g (h.zrow g hg), fun i hi => ⟨(h.one i hi).1, hz _ (h.one i hi).2⟩, fun i hi => ⟨(h.map i hi).1, hz _ (h.map i hi).2⟩, h.nd⟩
/-- What the lot is, in the document's words. -/
def Sim (L : List It) (S : Lo) : Prop := L.length = S.length ∧ ∀ (j : Nat) (i : It) (a : Ev × List ByteArray), L[j]? = some i → S[j]? = some a → i.x = a.1 ∧ ∀ s, s ∈ i.lost ↔ s ∈ a.2
theorem Sim.nil : Sim [] [] := ⟨rfl, fun j i a h => by simp at h⟩
theorem Sim.len {L : List It} {S : Lo} (h : Sim L S) : L.length = S.length := h.1
theorem Sim.at {L : List It} {S : Lo} (h : Sim L S) {j : Nat} {i : It} (hj : L[j]? = some i) : ∃ a, S[j]? = some a ∧ i.x = a.1 ∧ ∀ s, s ∈ i.lost ↔ s ∈ a.2 := by
  have hl : j < S.length := by rw [← h.1]; exact (List.getElem?_eq_some_iff.1 hj).1
  exact ⟨S[j], List.getElem?_eq_getElem hl, h.2 j i _ hj (List.getElem?_eq_getElem hl)⟩
def LotIs (κ : KK P k ByteArray) (tL tP tO : TypeId) (w : World) (Z : Nat → Prop) (p : Nat) (S : Lo) : Prop := ∃ v L, LotAt κ tL tP tO w Z p v L ∧ Sim L S
theorem LotIs.below {S : Lo} (h : LotIs κ tL tP tO w Z p S) (hb : Below w.heap.size w w1) : LotIs κ tL tP tO w1 Z p S := by obtain ⟨v, L, h1, h2⟩ := h; exact ⟨v, L, h1.below hb, h2⟩
theorem LotIs.kept {F : Nat → Prop} {S : Lo} (h : LotIs κ tL tP tO w Z p S) (hk : Kept F w w1) (hF : ∀ g, g < w.heap.size → Z g → ¬ F g) : LotIs κ tL tP tO w1 Z p S := by obtain ⟨v, L, h1, h2⟩ := h; exact ⟨v, L, h1.kept hk hF, h2⟩
theorem LotIs.lt {S : Lo} (h : LotIs κ tL tP tO w Z p S) : p < w.heap.size := by obtain ⟨v, L, h1, h2⟩ := h; exact h1.lt
theorem LotIs.zp {S : Lo} (h : LotIs κ tL tP tO w Z p S) : Z p := by obtain ⟨v, L, h1, h2⟩ := h; exact h1.zp
end
/-! the document's lot -/
def hasS (S : Lo) (id : ByteArray) : Bool := S.any fun a => decide (a.1.id = id)
def putE (S : Lo) (x : Ev) (lost : List ByteArray) : Int := if hasS S x.id then 30 else if 64 ≤ S.length then 32 else if lost.length = 0 then 1 else 0
def putS (S : Lo) (x : Ev) (lost : List ByteArray) : Lo := if putE S x lost = 0 then S ++ [(x, lost)] else S
def cameS (S : Lo) (id : ByteArray) : Lo := S.map fun a => (a.1, a.2.filter fun s => decide (s ≠ id))
def takeI (S : Lo) : Option Nat := S.findIdx? fun a => a.2.isEmpty
def evZ : Ev := ⟨⟨#[]⟩, ⟨#[]⟩, 0⟩
def takeX (S : Lo) : Ev := match takeI S with | some i => ((S[i]?).map (·.1)).getD evZ | none => evZ
def tookS (S : Lo) : Bool := (takeI S).isSome
def takeS (S : Lo) : Lo := match takeI S with | some i => S.take i ++ S.drop (i + 1) | none => S
def namesS (S : Lo) : List ByteArray := S.flatMap (·.2)
theorem idxOf_nonneg {α : Type} (q : α → Bool) (l : List α) : 0 ≤ idxOf q l ↔ l.any q = true := by
  unfold idxOf
  cases h : l.findIdx? q with
  | none =>
    rw [List.findIdx?_eq_none_iff] at h
    simp only [List.any_eq_true]
    constructor
    · intro h'; exact absurd h' (by decide)
    · rintro ⟨x, hx, hq⟩; rw [h x hx] at hq; cases hq
  | some i =>
    obtain ⟨hi, h1, _⟩ := List.findIdx?_eq_some_iff_getElem.1 h
    simp only [List.any_eq_true]
    exact ⟨fun _ => ⟨_, List.getElem_mem hi, h1⟩, fun _ => by omega⟩
theorem has_sim {L : List It} {S : Lo} (h : Sim L S) (id : ByteArray) : 0 ≤ idxOf (fun i : It => decide (i.x.id = id)) L ↔ hasS S id = true := by
  rw [idxOf_nonneg]
  unfold hasS
  simp only [List.any_eq_true, decide_eq_true_eq]
  constructor
  · rintro ⟨i, hi, h1⟩
    obtain ⟨j, hj⟩ := List.mem_iff_getElem?.1 hi
    obtain ⟨a, ha, h2, _⟩ := h.at hj
    exact ⟨a, List.mem_of_getElem? ha, by rw [← h2]; exact h1⟩
  · rintro ⟨a, ha, h1⟩
    obtain ⟨j, hj⟩ := List.mem_iff_getElem?.1 ha
    have hl : j < L.length := by rw [h.1]; exact (List.getElem?_eq_some_iff.1 hj).1
    obtain ⟨h2, _⟩ := h.2 j L[j] a (List.getElem?_eq_getElem hl) hj
    exact ⟨L[j], List.getElem_mem hl, by rw [h2]; exact h1⟩
/-! a row of pointers, an element of which is struck -/
def encP (o : Option Nat) : Value := .pointer (o.map fun b => ⟨b, 0, none⟩)
theorem ptr_enc (L : List It) : L.map It.ptr = (L.map fun i => some i.blk).map encP := by rw [List.map_map]; rfl
theorem row_short {e base g n cap : Nat} {w : World} {xs : List Value} (h : w.ownsRow base e 1 (.slice (some ⟨g, 0, none⟩) n cap) n xs) (m : Nat) (hm : m ≤ n) : w.ownsRow base e 1 (.slice (some ⟨g, 0, none⟩) m cap) m (xs.take m) := by
  obtain ⟨hl, h⟩ := h
  rcases h with ⟨h, _⟩ | ⟨g', cap', cur, hv, hb, hh, hc, hx, hs, ht⟩
  · cases h
  · injection hv with ha hn hc'
    injection ha with ha
    injection ha with ha
    subst ha; subst hc'
    refine ⟨by rw [List.length_take]; omega, .inr ⟨g, cap, cur, rfl, hb, hh, by omega, hx, hs, ?_⟩⟩
    rw [← ht, List.take_take]; congr 1; omega
theorem row_room {e base g n cap : Nat} {w : World} {xs : List Value} (h : w.ownsRow base e 1 (.slice (some ⟨g, 0, none⟩) n cap) n xs) : n ≤ cap ∧ cap ≤ 9223372036854775807 ∧ base ≤ g := by
  obtain ⟨hl, h⟩ := h
  rcases h with ⟨h, _⟩ | ⟨g', cap', cur, hv, hb, hh, hc, hx, hs, ht⟩
  · cases h
  · injection hv with ha hn hc'
    injection ha with ha
    injection ha with ha
    subst ha; subst hc'
    exact ⟨hc, hx, hb⟩
/-! taking -/
theorem findIdx_id {α : Type} (q : α → Bool) (l : List α) : l.findIdx? q = (l.map q).findIdx? id := by rw [List.findIdx?_map]; rfl
theorem take_sim {L : List It} {S : Lo} (h : Sim L S) : L.findIdx? (fun i => i.lost.isEmpty) = takeI S := by
  unfold takeI
  rw [findIdx_id, findIdx_id (fun a : Ev × List ByteArray => a.2.isEmpty)]
  congr 1
  apply List.ext_getElem?
  intro j
  rw [List.getElem?_map, List.getElem?_map]
  rcases Nat.lt_or_ge j L.length with hj | hj
  · have hj' : j < S.length := by rw [← h.1]; exact hj
    rw [List.getElem?_eq_getElem hj, List.getElem?_eq_getElem hj']
    obtain ⟨_, h2⟩ := h.2 j _ _ (List.getElem?_eq_getElem hj) (List.getElem?_eq_getElem hj')
    have e : ∀ {a b : List ByteArray}, (∀ s, s ∈ a ↔ s ∈ b) → a.isEmpty = b.isEmpty := by
      intro a b hab
      cases a with
      | nil => cases b with
        | nil => rfl
        | cons y b => exact absurd ((hab y).2 (by simp)) (by simp)
      | cons x a => cases b with
        | nil => exact absurd ((hab x).1 (by simp)) (by simp)
        | cons y b => rfl
    simp only [Option.map_some, e h2]
  · rw [List.getElem?_eq_none hj, List.getElem?_eq_none (by rw [← h.1]; exact hj)]; rfl
theorem Sim.erase {L : List It} {S : Lo} (h : Sim L S) (i : Nat) : Sim (L.eraseIdx i) (S.eraseIdx i) := by
  refine ⟨by rw [List.length_eraseIdx, List.length_eraseIdx, h.1], fun j x a hx ha => ?_⟩
  rw [List.getElem?_eraseIdx] at hx ha
  split at hx
  · rename_i hj; rw [if_pos hj] at ha; exact h.2 _ _ _ hx ha
  · rename_i hj; rw [if_neg hj] at ha; exact h.2 _ _ _ hx ha
theorem takeS_erase {S : Lo} {i : Nat} (h : takeI S = some i) : takeS S = S.eraseIdx i := by
  unfold takeS; rw [h, List.eraseIdx_eq_take_drop_succ]
section
variable {P : Program} {k : TypeId} {κ : KK P k ByteArray} {tL tP tO : TypeId} {w w1 w2 : World} {Z : Nat → Prop} {p : Nat} {v v1 : Value} {L : List It}
/-- The row has been struck, and stored again. -/
theorem LotAt.erase (h : LotAt κ tL tP tO w Z p v L) (i : Nat) (hb : Kept (fun k => some k = v.ownBlock ∨ k = p) w w1) (hp : w1.heap[p]? = some (.cells #[v1] tL (0, 0))) (hne : tP ≠ tO) (htL : tL ≠ tO) (hv : v1.ownBlock = v.ownBlock)
    (hr : w1.ownsRow 0 tP 1 v1 (L.eraseIdx i).length ((L.eraseIdx i).map It.ptr)) : LotAt κ tL tP tO w1 Z p v1 (L.eraseIdx i) where
  obj := hp
  zp := h.zp
  row := hr
  zrow g hg := h.zrow g (hv ▸ hg)
  one x hx := by
    have hx' := List.mem_of_mem_eraseIdx hx
    obtain ⟨h1, h2⟩ := h.one x hx'
    refine ⟨(hb.block x.blk (Array.getElem?_eq_some_iff.1 h1).1 ?_).trans h1, h2⟩
    rintro (e | e)
    · obtain ⟨cells, hc⟩ := own_typed h.row _ e.symm
      rw [h1] at hc; injection hc with hc; injection hc with _ hc; exact hne hc.symm
    · have := h.obj
      rw [← e, h1] at this; injection this with hc; injection hc with _ hc; exact htL hc.symm
  map x hx := by
    have hx' := List.mem_of_mem_eraseIdx hx
    obtain ⟨h1, h2⟩ := h.map x hx'
    refine ⟨h1.move (hb.block x.mp h1.lt ?_), h2⟩
    rintro (e | e)
    · obtain ⟨cells, hc⟩ := own_typed h.row _ e.symm
      exact h1.off hc rfl
    · exact h1.off h.obj e.symm
  nd := h.nd.sublist ((List.eraseIdx_sublist L i).map _)
end
/-! what came -/
def dropN (id : ByteArray) (i : It) : It := { i with lost := i.lost.filter fun s => decide (s ≠ id) }
def cameL (id : ByteArray) (L : List It) (k : Nat) : List It := (L.take k).map (dropN id) ++ L.drop k
theorem cameL_zero (id : ByteArray) (L : List It) : cameL id L 0 = L := by simp [cameL]
theorem cameL_all (id : ByteArray) (L : List It) : cameL id L L.length = L.map (dropN id) := by simp [cameL]
theorem cameL_length (id : ByteArray) (L : List It) (k : Nat) : (cameL id L k).length = L.length := by simp [cameL]; omega
theorem cameL_get (id : ByteArray) (L : List It) (k j : Nat) : (cameL id L k)[j]? = if j < k then (L[j]?).map (dropN id) else L[j]? := by
  unfold cameL
  rw [List.getElem?_append, List.getElem?_map, List.length_map, List.length_take, List.getElem?_take, List.getElem?_drop]
  by_cases h : j < k
  · by_cases h2 : j < L.length
    · rw [if_pos (by omega), if_pos h, if_pos h]
    · rw [if_neg (by omega), if_pos h, List.getElem?_eq_none (by omega), List.getElem?_eq_none (by omega)]; rfl
  · rw [if_neg (by omega), if_neg h]
    by_cases h2 : k ≤ L.length
    · congr 1; omega
    · rw [List.getElem?_eq_none (by omega), List.getElem?_eq_none (by omega)]
theorem cameL_at (id : ByteArray) {L : List It} {k : Nat} (h : k < L.length) : (cameL id L k)[k]? = some L[k] := by
  rw [cameL_get, if_neg (by omega), List.getElem?_eq_getElem h]
theorem cameL_succ (id : ByteArray) {L : List It} {k : Nat} (h : k < L.length) : cameL id L (k + 1) = (cameL id L k).set k (dropN id L[k]) := by
  apply List.ext_getElem?
  intro j
  rw [cameL_get, List.getElem?_set, cameL_length]
  by_cases e : k = j
  · subst e
    rw [if_pos (by omega), if_pos rfl, if_pos h, List.getElem?_eq_getElem h]; rfl
  · rw [if_neg e, cameL_get]
    by_cases h2 : j < k
    · rw [if_pos (by omega), if_pos h2]
    · rw [if_neg (by omega), if_neg h2]
theorem Sim.came {L : List It} {S : Lo} (h : Sim L S) (id : ByteArray) : Sim (L.map (dropN id)) (cameS S id) := by
  refine ⟨by simp [cameS, h.1], fun j i a hi ha => ?_⟩
  unfold cameS at ha
  rw [List.getElem?_map] at hi ha
  obtain ⟨i0, hi0, rfl⟩ := Option.map_eq_some_iff.1 hi
  obtain ⟨a0, ha0, rfl⟩ := Option.map_eq_some_iff.1 ha
  obtain ⟨h1, h2⟩ := h.2 j i0 a0 hi0 ha0
  refine ⟨h1, fun s => ?_⟩
  show s ∈ i0.lost.filter _ ↔ _
  rw [List.mem_filter, List.mem_filter, h2]
theorem keyed_del (l : List ByteArray) (id : ByteArray) : delM (keyed l) id = keyed (l.filter fun s => decide (s ≠ id)) := by
  unfold delM keyed
  rw [List.filter_map]; rfl
section
variable {P : Program} {k : TypeId} {κ : KK P k ByteArray} {tL tP tO : TypeId} {w w1 w2 : World} {Z : Nat → Prop} {p : Nat} {v v1 : Value} {L : List It}
theorem LotAt.set (h : LotAt κ tL tP tO w Z p v L) {k : Nat} {x : It} (hk : L[k]? = some x) (l' : List ByteArray) (hg : w.grownBy w1 (some x.mp)) (ho : Own κ unitV w1 x.mp (keyed l')) : LotAt κ tL tP tO w1 Z p v (L.set k { x with lost := l' }) := by
  have hkl := (List.getElem?_eq_some_iff.1 hk).1
  have hx : x ∈ L := List.mem_of_getElem? hk
  have hxe : L[k] = x := (List.getElem?_eq_some_iff.1 hk).2
  have hM := (h.map x hx).1
  have hmem : ∀ y, y ∈ L.set k { x with lost := l' } → y = { x with lost := l' } ∨ (y ∈ L ∧ y.mp ≠ x.mp) := by
    intro y hy
    obtain ⟨j, hj⟩ := List.mem_iff_getElem?.1 hy
    rw [List.getElem?_set] at hj
    split at hj
    · left
      first
        | exact (Option.some.inj hj).symm
        | (split at hj; exact (Option.some.inj hj).symm; cases hj)
    · rename_i hne
      right
      refine ⟨List.mem_of_getElem? hj, fun e => ?_⟩
      have hjl := (List.getElem?_eq_some_iff.1 hj).1
      have hn := h.nd
      rw [List.Nodup, List.pairwise_iff_getElem] at hn
      have ey : L[j] = y := (List.getElem?_eq_some_iff.1 hj).2
      rcases Nat.lt_or_gt_of_ne hne with h1 | h1
      · exact hn k j (by simpa using hkl) (by simpa using hjl) h1 (by simp [hxe, ey, e])
      · exact hn j k (by simpa using hjl) (by simpa using hkl) h1 (by simp [hxe, ey, e])
  refine ⟨(hg.block p h.lt (fun e => hM.off h.obj (Option.some.inj e))).trans h.obj, h.zp, ?_, h.zrow, fun y hy => ?_, fun y hy => ?_, ?_⟩
  · have e : (L.set k { x with lost := l' }).map It.ptr = L.map It.ptr := by
      rw [List.map_set]
      apply List.ext_getElem?
      intro j
      rw [List.getElem?_set]
      split
      · rename_i e; subst e
        first | rw [List.length_map, if_pos hkl, List.getElem?_map, hk]; rfl | (rw [List.getElem?_map, hk]; rfl)
      · rfl
    rw [e, List.length_set]
    refine own_move h.row (fun g hg' => hg.block g (own_lt h.row g hg') (fun e => ?_))
    obtain ⟨cells, hc⟩ := own_typed h.row g hg'
    exact hM.off hc (Option.some.inj e)
  · have hy' : ∃ y', y' ∈ L ∧ y'.blk = y.blk ∧ y'.x = y.x ∧ y'.mp = y.mp := by
      rcases hmem y hy with rfl | ⟨h1, _⟩
      · exact ⟨x, hx, rfl, rfl, rfl⟩
      · exact ⟨y, h1, rfl, rfl, rfl⟩
    obtain ⟨y', hy1, e1, e2, e3⟩ := hy'
    obtain ⟨h1, h2⟩ := h.one y' hy1
    rw [← e1, ← e2, ← e3]
    exact ⟨(hg.block _ (Array.getElem?_eq_some_iff.1 h1).1 (fun e => hM.off h1 (Option.some.inj e))).trans h1, h2⟩
  · rcases hmem y hy with rfl | ⟨h1, h2⟩
    · exact ⟨ho, (h.map x hx).2⟩
    · obtain ⟨h3, h4⟩ := h.map y h1
      exact ⟨h3.move (hg.block _ h3.lt (fun e => h2 (Option.some.inj e))), h4⟩
  · have e : (L.set k { x with lost := l' }).map It.mp = L.map It.mp := by
      rw [List.map_set]
      apply List.ext_getElem?
      intro j
      rw [List.getElem?_set]
      split
      · rename_i e; subst e
        first | rw [List.length_map, if_pos hkl, List.getElem?_map, hk]; rfl | (rw [List.getElem?_map, hk]; rfl)
      · rfl
    rw [e]; exact h.nd
end
/-! one more -/
theorem Sim.snoc {L : List It} {S : Lo} (h : Sim L S) {i : It} {a : Ev × List ByteArray} (h1 : i.x = a.1) (h2 : ∀ s, s ∈ i.lost ↔ s ∈ a.2) : Sim (L ++ [i]) (S ++ [a]) := by
  refine ⟨by simp [h.1], fun j x b hx hb => ?_⟩
  rw [List.getElem?_append] at hx hb
  split at hx
  · rename_i hj; rw [if_pos (by rw [← h.1]; exact hj)] at hb; exact h.2 j x b hx hb
  · rename_i hj
    rw [if_neg (by rw [← h.1]; exact hj)] at hb
    rw [h.1] at hx
    rcases Nat.eq_zero_or_pos (j - S.length) with e | e
    · rw [e] at hx hb
      obtain rfl := Option.some.inj hx
      obtain rfl := Option.some.inj hb
      exact ⟨h1, h2⟩
    · rw [List.getElem?_eq_none (by simp; omega)] at hx; cases hx
theorem keyed_put (l : List ByteArray) (s : ByteArray) : putM (keyed l) s () = keyed (s :: l.filter fun z => decide (z ≠ s)) := by
  unfold putM; rw [keyed_del]; rfl
theorem C_str {w : World} {A : Option Addr} {n : Nat} {xs : List ByteArray} (h : Kd.string.C w A n xs) {k : Nat} (hk : k < xs.length) : ∃ ad, A = some ad ∧ w.cell? (ad.add k) = some (.string xs[k]) := by
  have hn : xs.length = n := h.1
  obtain ⟨ad, c, e, hcl, hK, hcell⟩ := Kd.C_get h xs[k] (k : Int) (by omega) (by omega)
  refine ⟨ad, e, ?_⟩
  have h1 : c = [Value.string (xs.getD (k : Int).toNat xs[k])] := hK
  have h2 := hcell 0 (.string xs[k]) (by rw [h1]; simp [List.getD_eq_getElem?_getD, hk])
  simpa [Kd.string, Kd.scalar] using h2
section
variable {P : Program} {k : TypeId} {κ : KK P k ByteArray} {tL tP tO : TypeId} {w w1 w2 : World} {Z Z' : Nat → Prop} {p : Nat} {v v1 : Value} {L : List It}
theorem LotAt.snoc (h : LotAt κ tL tP tO w Z p v L) (i : It) (hZ : ∀ g, Z g → Z' g) (hN : ∀ g, w.heap.size ≤ g → Z' g) (htP : tP ≠ tO) (htL : tL ≠ tO)
    (hk : ∀ g, g < w.heap.size → g ≠ p → some g ≠ v.ownBlock → w1.heap[g]? = w.heap[g]?) (hp : w1.heap[p]? = some (.cells #[v1] tL (0, 0))) (hr : w1.ownsRow 0 tP 1 v1 (L.length + 1) ((L ++ [i]).map It.ptr))
    (hv : v1.ownBlock = v.ownBlock ∨ ∃ b, v1.ownBlock = some b ∧ w.heap.size ≤ b) (hb : w1.heap[i.blk]? = some (.cells (evL i.x ++ [Value.map (some i.mp)]).toArray tO (0, 0))) (hb0 : w.heap.size ≤ i.blk) (hm : Own κ unitV w1 i.mp (keyed i.lost)) (hm0 : w.heap.size ≤ i.mp) :
    LotAt κ tL tP tO w1 Z' p v1 (L ++ [i]) where
  obj := hp
  zp := hZ _ h.zp
  row := by rw [List.length_append]; exact hr
  zrow g hg := by
    rcases hv with hv | ⟨b, hv, hle⟩
    · exact hZ g (h.zrow g (hv ▸ hg))
    · rw [hv] at hg; cases hg; exact hN _ hle
  one x hx := by
    rcases List.mem_append.1 hx with hx | hx
    · obtain ⟨h1, h2⟩ := h.one x hx
      refine ⟨(hk _ (Array.getElem?_eq_some_iff.1 h1).1 ?_ ?_).trans h1, hZ _ h2⟩
      · intro e
        have := h.obj
        rw [← e, h1] at this; injection this with hc; injection hc with _ hc; exact htL hc.symm
      · intro e
        obtain ⟨cells, hc⟩ := own_typed h.row _ e.symm
        rw [h1] at hc; injection hc with hc; injection hc with _ hc; exact htP hc.symm
    · rw [List.mem_singleton.1 hx]; exact ⟨hb, hN _ hb0⟩
  map x hx := by
    rcases List.mem_append.1 hx with hx | hx
    · obtain ⟨h1, h2⟩ := h.map x hx
      refine ⟨h1.move (hk _ h1.lt ?_ ?_), hZ _ h2⟩
      · exact fun e => h1.off h.obj e.symm
      · intro e
        obtain ⟨cells, hc⟩ := own_typed h.row _ e.symm
        exact h1.off hc rfl
    · rw [List.mem_singleton.1 hx]; exact ⟨hm, hN _ hm0⟩
  nd := by
    rw [List.map_append, List.nodup_append]
    refine ⟨h.nd, by simp, fun a ha b hb' => ?_⟩
    obtain ⟨x, hx, rfl⟩ := List.mem_map.1 ha
    rw [List.map_singleton, List.mem_singleton] at hb'
    have := (h.map x hx).1.lt
    omega
end
end Go.Proofs.He
