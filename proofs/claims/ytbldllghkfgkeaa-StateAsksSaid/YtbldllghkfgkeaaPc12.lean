-- Written by heprint.py (this session's, over the kit's print.py): not trusted, Lean checks it.
import Derived.Test.YtbldllghkfgkeaaPc0
import Derived.Test.YtbldllghkfgkeaaPc2
import Derived.Test.YtbldllghkfgkeaaPc4
import Derived.Test.YtbldllghkfgkeaaPc5
import Derived.Test.YtbldllghkfgkeaaPc6
import Derived.Test.YtbldllghkfgkeaaPc7
import Derived.Test.YtbldllghkfgkeaaPc8
import Derived.Test.YtbldllghkfgkeaaPc9
import Derived.Test.YtbldllghkfgkeaaPc10
import Derived.Test.YtbldllghkfgkeaaPc11
namespace Go.Proofs.Ytbldllghkfgkeaa.S
open Go.RowKit Go.Proofs.YtbldllghkfgkeaaW.PrintWords Go.Proofs.YtbldllghkfgkeaaW.PrintLast Go.Proofs.YtbldllghkfgkeaaW.PrintMore
attribute [local go_sem] max2_int min2_int max_two min_two max_three min_three max_four min_four   -- for this text's walks alone
set_option linter.unusedVariables false
set_option linter.unusedSimpArgs false

/-! ### pure St8 -/
-- PURE needs heliast/heliastlaw13.StateAsks needs heliast/heliastlaw13.asks needs heliast/heliastlaw13.same needs heliast/heliastlaw13.puts needs heliast/heliastlaw13.heavy needs heliast/heliastlaw13.known needs heliast/heliastlaw13.State needs heliast/heliastref12.Same needs heliast/heliastref13.Right needs heliast/heliastref13.Get needs heliast/heliastref13.Places needs heliast/heliastref13.Same needs heliast/heliastref13.Over needs heliast/heliastref13.Put needs heliast/state.Places needs heliast/state.Put needs heliast/state.Get needs heliast/state.Right needs heliast/state.Same needs heliast/state.Over
open Go.Proofs.He
theorem pl_wrapB {i : Int} (h0 : -9223372036854775808 ≤ i) (h : i ≤ 9223372036854775807) : wrap64 i = i := by unfold wrap64; omega
theorem pl_rdB {l : List Int} {i : Nat} (h : i < l.length) : rd l (i : Int) = l[i] := by simp [rd, h]
theorem compactUpTo_specB (d : Array Int) (hs : ∀ i j, i ≤ j → j < d.size → d[i]! ≤ d[j]!) : ∀ (m : Nat), m ≤ d.size → (Lib.compactUpTo d m).Pairwise (· < ·) ∧ (∀ x, x ∈ Lib.compactUpTo d m ↔ ∃ j, j < m ∧ d[j]! = x)
  | 0, _ => by simp [Lib.compactUpTo]
  | m + 1, hm => by
    obtain ⟨h1, h2⟩ := compactUpTo_specB d hs m (by omega)
    rw [Lib.compactUpTo_succ]
    cases hk : Lib.keeps d m with
    | true =>
      rw [if_pos rfl]
      have hne : m = 0 ∨ d[m]! ≠ d[m - 1]! := by simpa [Lib.keeps] using hk
      refine ⟨List.pairwise_append.2 ⟨h1, by simp, fun a ha b hb => ?_⟩, fun x => ?_⟩
      · rw [List.mem_singleton.1 hb]
        obtain ⟨j, hj, rfl⟩ := (h2 a).1 ha
        have e1 := hs j (m - 1) (by omega) (by omega)
        have e2 := hs (m - 1) m (by omega) (by omega)
        rcases hne with h | h <;> omega
      · rw [List.mem_append, List.mem_singleton, h2]
        constructor
        · rintro (⟨j, hj, rfl⟩ | rfl)
          · exact ⟨j, by omega, rfl⟩
          · exact ⟨m, by omega, rfl⟩
        · rintro ⟨j, hj, rfl⟩
          by_cases e : j = m
          · subst e; exact .inr rfl
          · exact .inl ⟨j, by omega, rfl⟩
    | false =>
      have hne : m ≠ 0 ∧ d[m]! = d[m - 1]! := by simpa [Lib.keeps] using hk
      rw [if_neg (by simp), List.append_nil]
      refine ⟨h1, fun x => ?_⟩
      rw [h2]
      constructor
      · rintro ⟨j, hj, rfl⟩; exact ⟨j, by omega, rfl⟩
      · rintro ⟨j, hj, rfl⟩
        by_cases e : j = m
        · subst e; exact ⟨j - 1, by omega, hne.2.symm⟩
        · exact ⟨j, by omega, rfl⟩
theorem placesL_specB (l : List S74) : (placesL l).Pairwise (· < ·) ∧ (∀ x, x ∈ placesL l ↔ ∃ y ∈ l, y.f2 = x) := by
  unfold placesL Lib.compact
  obtain ⟨s, hs⟩ : ∃ s, s = (l.map fun x => x.f2).mergeSort fun x y => decide (x ≤ y) := ⟨_, rfl⟩
  rw [← hs]
  have hp : s.Pairwise (fun x y => x ≤ y) := by
    have := List.pairwise_mergeSort (le := fun x y : Int => decide (x ≤ y)) (fun a b c h1 h2 => by simp at *; omega) (fun a b => by simp; omega) (l.map fun x => x.f2)
    rw [← hs] at this
    exact this.imp (fun h => by simpa using h)
  have hmem : ∀ x, x ∈ s ↔ ∃ y ∈ l, y.f2 = x := fun x => by
    rw [hs, (List.mergeSort_perm _ _).mem_iff, List.mem_map]
  have hat : ∀ j, (h : j < s.length) → s.toArray[j]! = s[j] := fun j h => by rw [getElem!_pos s.toArray j (by simpa using h)]; simp
  obtain ⟨h1, h2⟩ := compactUpTo_specB s.toArray (fun i j hij hj => by
    have hj' : j < s.length := by simpa using hj
    rw [hat i (by omega), hat j hj']
    rcases Nat.lt_or_eq_of_le hij with h | rfl
    · exact List.pairwise_iff_getElem.1 hp i j (by omega) hj' h
    · omega) s.length (by simp)
  refine ⟨h1, fun x => ?_⟩
  rw [h2, ← hmem]
  constructor
  · rintro ⟨j, hj, rfl⟩; rw [hat j hj]; exact List.getElem_mem hj
  · intro hx; obtain ⟨j, hj, rfl⟩ := List.getElem_of_mem hx; exact ⟨j, hj, hat j hj⟩
theorem placesL_lengthB (l : List S74) : (placesL l).length ≤ l.length := by
  unfold placesL
  refine Nat.le_trans (Lib.compact_length_le _) ?_
  rw [List.length_mergeSort, List.length_map]; exact Nat.le_refl _
theorem pl_rdTB {l : List S74} {i : Nat} (h : i < l.length) : rd_T74 l (i : Int) = l[i] := by simp [rd_T74, h]
theorem pl_heavy_l0B (l : List S74) (hl : l.length ≤ 5864062014805) (d : Nat) : ∀ (i : Nat) (x : Int), i + d = l.length → ∃ b, ∀ k, d + 1 ≤ k → heliastlaw13_heavy.l0 k l x (i : Int) = some b := by
  induction d with
  | zero =>
    intro i x hd
    refine ⟨decide (x > 300), fun k hk => ?_⟩
    obtain ⟨k, rfl⟩ : ∃ m, k = m + 1 := ⟨k - 1, by omega⟩
    simp only [heliastlaw13_heavy.l0]
    rw [if_neg (by omega)]
  | succ d ih =>
    intro i x hd
    have hw : wrap64 ((i : Int) + 1) = ((i + 1 : Nat) : Int) := by rw [pl_wrapB (by omega) (by omega)]; rfl
    by_cases hx : x ≤ 300
    · obtain ⟨b, hb⟩ := ih (i + 1) (wrap64 (x + (wrap64 ((wrap64 (1 + (((rd_T74 l (i : Int)).f0).size : Int))) + (((rd_T74 l (i : Int)).f1).size : Int))))) (by omega)
      refine ⟨b, fun k hk => ?_⟩
      obtain ⟨k, rfl⟩ : ∃ m, k = m + 1 := ⟨k - 1, by omega⟩
      simp only [heliastlaw13_heavy.l0]
      rw [if_pos (by omega), if_pos hx, if_pos (by omega), hw]
      exact hb k (by omega)
    · refine ⟨decide (x > 300), fun k hk => ?_⟩
      obtain ⟨k, rfl⟩ : ∃ m, k = m + 1 := ⟨k - 1, by omega⟩
      simp only [heliastlaw13_heavy.l0]
      rw [if_pos (by omega), if_neg hx]
theorem RSame_l0A (a b : List En) (hl : a.length = b.length) (hb : b.length < 3518437208882) (d : Nat) : ∀ (i k : Nat), i + d = a.length → d + 1 ≤ k → heliastref13_Same.l0 k a b (i : Int) = some (decide (a.drop i = b.drop i)) := by
  induction d with
  | zero =>
    intro i k hd hk
    obtain ⟨k, rfl⟩ : ∃ m, k = m + 1 := ⟨k - 1, by omega⟩
    simp only [heliastref13_Same.l0]
    rw [if_neg (by omega), List.drop_eq_nil_of_le (by omega), List.drop_eq_nil_of_le (by omega)]; rfl
  | succ d ih =>
    intro i k hd hk
    obtain ⟨k, rfl⟩ : ∃ m, k = m + 1 := ⟨k - 1, by omega⟩
    have hi : i < a.length := by omega
    have hj : i < b.length := by omega
    have hw : wrap64 ((i : Int) + 1) = ((i + 1 : Nat) : Int) := by rw [wrap_small (by omega) (by omega)]; rfl
    have hd2 : (a.drop i = b.drop i) ↔ (a[i] = b[i] ∧ a.drop (i + 1) = b.drop (i + 1)) := by
      rw [List.drop_eq_getElem_cons hi, List.drop_eq_getElem_cons hj, List.cons.injEq]
    simp only [heliastref13_Same.l0]
    rw [if_pos (by omega), if_pos (by omega), if_pos (by omega), rd_en hi, rd_en hj, decide_eq_decide.2 hd2]
    by_cases he : a[i] = b[i]
    · rw [if_neg (by rw [en_ne]; exact fun h => h he), hw, ih (i + 1) k (by omega) (by omega)]
      simp only [he, true_and]
    · rw [if_pos (by rw [en_ne]; exact he), decide_eq_false (fun h => he h.1)]
theorem RSame_fA (a b : List En) (ha : a.length < 3518437208882) (hb : b.length < 3518437208882) (k : Nat) (hk : a.length + 1 ≤ k) : heliastref13_Same.f k a b = some (decide (a = b)) := by
  unfold heliastref13_Same.f
  by_cases hl : a.length = b.length
  · have h := RSame_l0A a b hl hb a.length 0 k (by omega) hk
    rw [if_pos (by omega), show (0 : Int) = ((0 : Nat) : Int) from rfl, h]
    rfl
  · rw [if_neg (by omega)]
    have : a ≠ b := fun e => hl (by rw [e])
    simp [this]
theorem stGet_consA (y : En) (l : List En) (p q : ByteArray) : stGet (y :: l) p q = if y.f0 = p ∧ y.f1 = q then y.f2 else stGet l p q := by
  rw [stGet_look, stGet_look, look_cons]
  by_cases h : y.f0 = p ∧ y.f1 = q
  · rw [if_pos h, if_pos h]
  · rw [if_neg h, if_neg h]
theorem RGet_l0A (l : List En) (p q : ByteArray) (hl : l.length < 3518437208882) (d : Nat) : ∀ (i k : Nat), i + d = l.length → d + 1 ≤ k → heliastref13_Get.l0 k l p q (i : Int) = some (stGet (l.drop i) p q) := by
  induction d with
  | zero =>
    intro i k hd hk
    obtain ⟨k, rfl⟩ : ∃ m, k = m + 1 := ⟨k - 1, by omega⟩
    simp only [heliastref13_Get.l0]
    rw [if_neg (by omega), List.drop_eq_nil_of_le (by omega)]; rfl
  | succ d ih =>
    intro i k hd hk
    obtain ⟨k, rfl⟩ : ∃ m, k = m + 1 := ⟨k - 1, by omega⟩
    have hi : i < l.length := by omega
    have hw : wrap64 ((i : Int) + 1) = ((i + 1 : Nat) : Int) := by rw [wrap_small (by omega) (by omega)]; rfl
    have e : stGet (l.drop i) p q = if l[i].f0 = p ∧ l[i].f1 = q then l[i].f2 else stGet (l.drop (i + 1)) p q := by
      rw [List.drop_eq_getElem_cons hi, stGet_consA]
    simp only [heliastref13_Get.l0]
    rw [if_pos (by omega), if_pos (by omega), rd_en hi, e, hw, ih (i + 1) k (by omega) (by omega)]
    by_cases h0 : l[i].f0 = p
    · rw [if_pos (by rw [h0])]
      by_cases h1 : l[i].f1 = q
      · rw [if_pos (by rw [h1]), if_pos ⟨h0, h1⟩]
      · rw [if_neg (fun g => h1 (ba_ext g)), if_neg (fun g => h1 g.2)]
    · rw [if_neg (fun g => h0 (ba_ext g)), if_neg (fun g => h0 g.1)]
theorem RGet_fA (l : List En) (p q : ByteArray) (hl : l.length < 3518437208882) (k : Nat) (hk : l.length + 1 ≤ k) : heliastref13_Get.f k l p q = some (stGet l p q) := by
  have h := RGet_l0A l p q hl l.length 0 k (by omega) hk
  unfold heliastref13_Get.f
  rw [show (0 : Int) = ((0 : Nat) : Int) from rfl, h]; rfl
theorem rd_getA {l : List Int} {i : Nat} (h : i < l.length) : rd l (i : Int) = l[i] := by simp [rd, h]
theorem g12_Same_l0A (a b : List Int) (hl : a.length = b.length) (hb : b.length < 4611686018427387904) (d : Nat) : ∀ (i k : Nat), i + d = a.length → d + 1 ≤ k → heliastref12_Same.l0 k a b (i : Int) = some (decide (a.drop i = b.drop i)) := by
  induction d with
  | zero =>
    intro i k hd hk
    obtain ⟨k, rfl⟩ : ∃ m, k = m + 1 := ⟨k - 1, by omega⟩
    simp only [heliastref12_Same.l0]
    rw [if_neg (by omega), List.drop_eq_nil_of_le (by omega), List.drop_eq_nil_of_le (by omega)]; rfl
  | succ d ih =>
    intro i k hd hk
    obtain ⟨k, rfl⟩ : ∃ m, k = m + 1 := ⟨k - 1, by omega⟩
    have hi : i < a.length := by omega
    have hj : i < b.length := by omega
    have hw : wrap64 ((i : Int) + 1) = ((i + 1 : Nat) : Int) := by rw [wrap_sm (by omega) (by omega)]; rfl
    have hd2 : (a.drop i = b.drop i) ↔ (a[i] = b[i] ∧ a.drop (i + 1) = b.drop (i + 1)) := by
      rw [List.drop_eq_getElem_cons hi, List.drop_eq_getElem_cons hj, List.cons.injEq]
    simp only [heliastref12_Same.l0]
    rw [if_pos (by omega), if_pos (by omega), if_pos (by omega), rd_getA hi, rd_getA hj, decide_eq_decide.2 hd2]
    by_cases he : a[i] = b[i]
    · rw [if_pos he, hw, ih (i + 1) k (by omega) (by omega)]
      simp only [he, true_and]
    · rw [if_neg he, decide_eq_false (fun h => he h.1)]
theorem g12_SameA (a b : List Int) (hb : b.length < 4611686018427387904) (k : Nat) (hk : b.length + 1 ≤ k) : heliastref12_Same.f k a b = some (decide (a = b)) := by
  unfold heliastref12_Same.f
  by_cases hl : a.length = b.length
  · have h := g12_Same_l0A a b hl hb a.length 0 k (by omega) (by omega)
    rw [if_pos (by omega), show (0 : Int) = ((0 : Nat) : Int) from rfl, h]
    rfl
  · rw [if_neg (by omega)]
    have : a ≠ b := fun e => hl (by rw [e])
    simp [this]
theorem RRight_l0 (l : List En) (hl : l.length ≤ 3518437208882) (d : Nat) : ∀ (i k : Nat), 1 ≤ i → i + d = l.length → d + 5 ≤ k → heliastref13_Right.l0 k l (i : Int) = some (srtB (l.drop (i - 1))) := by
  induction d with
  | zero =>
    intro i k h1 hd hk
    obtain ⟨k, rfl⟩ : ∃ m, k = m + 1 := ⟨k - 1, by omega⟩
    have e : l.drop (i - 1) = [l[i - 1]'(by omega)] := by rw [List.drop_eq_getElem_cons (by omega), List.drop_eq_nil_of_le (by omega)]
    simp only [heliastref13_Right.l0]
    rw [if_neg (by omega), e]; rfl
  | succ d ih =>
    intro i k h1 hd hk
    obtain ⟨k, rfl⟩ : ∃ m, k = m + 1 + 1 := ⟨k - 2, by omega⟩
    have hi : i < l.length := by omega
    have hw : wrap64 ((i : Int) + 1) = ((i + 1 : Nat) : Int) := by rw [wrap_small (by omega) (by omega)]; rfl
    have hv : wrap64 ((i : Int) - 1) = ((i - 1 : Nat) : Int) := by rw [wrap_small (by omega) (by omega)]; omega
    have e : l.drop (i - 1) = l[i - 1] :: l[i] :: l.drop (i + 1) := by
      rw [List.drop_eq_getElem_cons (by omega), show i - 1 + 1 = i by omega, List.drop_eq_getElem_cons hi]
    have e2 : l.drop i = l[i] :: l.drop (i + 1) := List.drop_eq_getElem_cons hi
    have hih := ih (i + 1) (k + 1) (by omega) (by omega) (by omega)
    rw [heliastref13_Right.l0, hv, hw, if_pos (by omega), if_pos (by omega), if_pos (by omega), if_pos (by omega), rd_en (show i - 1 < l.length by omega), rd_en hi, ref_order, Option.bind_some, e, srtB]
    by_cases hc : cmpE l[i - 1] l[i] < 0
    · rw [if_neg (by omega), hih, show i + 1 - 1 = i by omega, e2]
      simp [hc]
    · rw [if_pos (by omega)]
      simp [hc]
theorem RRight_f (l : List En) (hl : l.length ≤ 3518437208882) (k : Nat) (hk : l.length + 6 ≤ k) : heliastref13_Right.f k l = some (srtB l) := by
  unfold heliastref13_Right.f
  rcases Nat.eq_zero_or_pos l.length with h0 | h0
  · obtain ⟨k, rfl⟩ : ∃ m, k = m + 1 := ⟨k - 1, by omega⟩
    simp only [heliastref13_Right.l0]
    rw [if_neg (by omega), List.eq_nil_of_length_eq_zero h0]; rfl
  · have := RRight_l0 l hl (l.length - 1) 1 k (by omega) (by omega) (by omega)
    exact this
def insGo (x : Int) : Bool → List Int → List Int
  | laid, [] => if laid = true then [] else [x]
  | laid, y :: t => if laid = false ∧ y ≥ x then x :: (if y = x then insGo x true t else y :: insGo x true t) else (if y = x then insGo x laid t else y :: insGo x laid t)
theorem insGo_true (x : Int) : ∀ t : List Int, insGo x true t = t.filter fun y => decide (y ≠ x)
  | [] => rfl
  | y :: t => by
    rw [insGo, if_neg (by simp), insGo_true x t]
    by_cases h : y = x
    · rw [if_pos h, List.filter_cons_of_neg (by simpa using h)]
    · rw [if_neg h, List.filter_cons_of_pos (by simpa using h)]
theorem insGo_spec (x : Int) : ∀ t : List Int, t.Pairwise (· < ·) → (insGo x false t).Pairwise (· < ·) ∧ (∀ z, z ∈ insGo x false t ↔ z = x ∨ z ∈ t) ∧ (insGo x false t).length ≤ t.length + 1
  | [], _ => by simp [insGo]
  | y :: t, hp => by
    rw [List.pairwise_cons] at hp
    obtain ⟨h1, h2, h3⟩ := insGo_spec x t hp.2
    have hl := List.length_filter_le (fun y => decide (y ≠ x)) t
    rw [insGo, insGo_true]
    by_cases hc : y ≥ x
    · rw [if_pos ⟨rfl, hc⟩]
      by_cases he : y = x
      · rw [if_pos he]
        subst he
        refine ⟨List.pairwise_cons.2 ⟨fun z hz => hp.1 z (List.mem_filter.1 hz).1, hp.2.filter _⟩, fun z => ?_, by simp only [List.length_cons]; omega⟩
        rw [List.mem_cons, List.mem_cons, List.mem_filter]
        constructor
        · rintro (h | ⟨h, _⟩)
          · exact .inl h
          · exact .inr (.inr h)
        · rintro (h | h | h)
          · exact .inl h
          · exact .inl h
          · exact .inr ⟨h, by have := hp.1 z h; simp; omega⟩
      · rw [if_neg he]
        refine ⟨List.pairwise_cons.2 ⟨fun z hz => ?_, List.pairwise_cons.2 ⟨fun z hz => hp.1 z (List.mem_filter.1 hz).1, hp.2.filter _⟩⟩, fun z => ?_, by simp only [List.length_cons]; omega⟩
        · rcases List.mem_cons.1 hz with rfl | hz
          · omega
          · have := hp.1 z (List.mem_filter.1 hz).1; omega
        · rw [List.mem_cons, List.mem_cons, List.mem_cons, List.mem_filter]
          constructor
          · rintro (h | h | ⟨h, _⟩)
            · exact .inl h
            · exact .inr (.inl h)
            · exact .inr (.inr h)
          · rintro (h | h | h)
            · exact .inl h
            · exact .inr (.inl h)
            · exact .inr (.inr ⟨h, by have := hp.1 z h; simp; omega⟩)
    · rw [if_neg (by omega), if_neg (by omega)]
      refine ⟨List.pairwise_cons.2 ⟨fun z hz => ?_, h1⟩, fun z => ?_, by simp only [List.length_cons]; omega⟩
      · rcases (h2 z).1 hz with rfl | hz
        · omega
        · exact hp.1 z hz
      · rw [List.mem_cons, List.mem_cons, h2]
        constructor
        · rintro (h | h | h)
          · exact .inr (.inl h)
          · exact .inl h
          · exact .inr (.inr h)
        · rintro (h | h | h)
          · exact .inr (.inl h)
          · exact .inl h
          · exact .inr (.inr h)
theorem Places_j2_t (l : List En) (o : List Int) (i j K : Nat) (next : List Int) (laid : Bool) (hi : i < l.length) (hj : j < o.length) (hn : next.length < 17592186044415) (hj2 : j ≤ 3518437208882) :
    heliastref13_Places.j2 (K + 1) l o (i : Int) next laid (j : Int) true = if o[j] = l[i].f2 then heliastref13_Places.l1 K l o (i : Int) (next ++ [l[i].f2]) true ((j + 1 : Nat) : Int) else heliastref13_Places.l1 K l o (i : Int) (next ++ [l[i].f2] ++ [o[j]]) true ((j + 1 : Nat) : Int) := by
  have hw : wrap64 ((j : Int) + 1) = ((j + 1 : Nat) : Int) := by rw [wrap_small (by omega) (by omega)]; rfl
  have hoj : rd o (j : Int) = o[j] := by simp [rd, hj]
  have a1 : (0 : Int) ≤ (i : Int) := by omega
  have a2 : (i : Int) < (l.length : Int) := by omega
  have a3 : next.length < 17592186044416 := by omega
  have a4 : (0 : Int) ≤ (j : Int) := by omega
  have a5 : (j : Int) < (o.length : Int) := by omega
  have a6 : (next ++ [l[i].f2]).length < 17592186044416 := by rw [List.length_append, List.length_singleton]; omega
  rw [heliastref13_Places.j2, hoj, hw, rd_en hi]
  generalize l[i].f2 = x at a6 ⊢
  generalize o[j] = y
  simp only [if_true, a1, a2, a3, a4, a5, a6, Option.bind_some]
theorem Places_j2_f (l : List En) (o : List Int) (i j K : Nat) (next : List Int) (laid : Bool) (hi : i < l.length) (hj : j < o.length) (hn : next.length < 17592186044415) (hj2 : j ≤ 3518437208882) :
    heliastref13_Places.j2 (K + 1) l o (i : Int) next laid (j : Int) false = if o[j] = l[i].f2 then heliastref13_Places.l1 K l o (i : Int) next laid ((j + 1 : Nat) : Int) else heliastref13_Places.l1 K l o (i : Int) (next ++ [o[j]]) laid ((j + 1 : Nat) : Int) := by
  have hw : wrap64 ((j : Int) + 1) = ((j + 1 : Nat) : Int) := by rw [wrap_small (by omega) (by omega)]; rfl
  have hoj : rd o (j : Int) = o[j] := by simp [rd, hj]
  have a1 : (0 : Int) ≤ (i : Int) := by omega
  have a2 : (i : Int) < (l.length : Int) := by omega
  have a3 : next.length < 17592186044416 := by omega
  have a4 : (0 : Int) ≤ (j : Int) := by omega
  have a5 : (j : Int) < (o.length : Int) := by omega
  rw [heliastref13_Places.j2, hoj, hw, rd_en hi]
  generalize l[i].f2 = x
  generalize o[j] = y
  simp only [Bool.false_eq_true, if_false, if_true, a1, a2, a3, a4, a5]
theorem RPl_true (l : List En) (i : Nat) (hi : i < l.length) (o : List Int) (ho : o.length ≤ 3518437208882) (hl : l.length ≤ 3518437208882) (d : Nat) : ∀ (j : Nat) (next : List Int) (k K : Nat), K = k + 2 * d + 1 → j + d = o.length → next.length ≤ j + 1 →
    heliastref13_Places.l1 K l o (i : Int) next true (j : Int) = heliastref13_Places.l0 k l (next ++ insGo l[i].f2 true (o.drop j)) ((i + 1 : Nat) : Int) := by
  have hwi : wrap64 ((i : Int) + 1) = ((i + 1 : Nat) : Int) := by rw [wrap_small (by omega) (by omega)]; rfl
  induction d with
  | zero =>
    intro j next k K hK hd hn
    obtain rfl : K = k + 1 := by omega
    have c : ¬ (j : Int) < (o.length : Int) := by omega
    rw [List.drop_eq_nil_of_le (by omega), heliastref13_Places.l1, if_neg c, if_pos (rfl : true = true), hwi, insGo, if_pos (rfl : true = true), List.append_nil]
  | succ d ih =>
    intro j next k K0 hK hd hn
    obtain ⟨K, hK1⟩ : ∃ m, K0 = m + 1 + 1 := ⟨K0 - 2, by omega⟩
    subst hK1
    have hj : j < o.length := by omega
    have c : (j : Int) < (o.length : Int) := by omega
    have n1 : next.length < 17592186044415 := by omega
    have n2 : j ≤ 3518437208882 := by omega
    have n3 : (next ++ [o[j]]).length ≤ (j + 1) + 1 := by rw [List.length_append, List.length_singleton]; omega
    have n4 : next.length ≤ (j + 1) + 1 := by omega
    have e1 : K = k + 2 * d + 1 := by omega
    have e2 : (j + 1) + d = o.length := by omega
    have h1 := ih (j + 1) next k K e1 e2 n4
    have h2 := ih (j + 1) (next ++ [o[j]]) k K e1 e2 n3
    have c3 : ¬ (true = false ∧ o[j] ≥ l[i].f2) := fun h => by cases h.1
    rw [List.drop_eq_getElem_cons hj, heliastref13_Places.l1, if_pos c, if_pos (rfl : true = true), Places_j2_f l o i j K next true hi hj n1 n2, h1, h2, insGo, if_neg c3]
    by_cases he : o[j] = l[i].f2
    · rw [if_pos he, if_pos he]
    · rw [if_neg he, if_neg he, List.append_assoc, List.singleton_append]
theorem RPl_false (l : List En) (i : Nat) (hi : i < l.length) (o : List Int) (ho : o.length ≤ 3518437208882) (hl : l.length ≤ 3518437208882) (d : Nat) : ∀ (j : Nat) (next : List Int) (k K : Nat), K = k + 2 * d + 1 → j + d = o.length → next.length ≤ j →
    heliastref13_Places.l1 K l o (i : Int) next false (j : Int) = heliastref13_Places.l0 k l (next ++ insGo l[i].f2 false (o.drop j)) ((i + 1 : Nat) : Int) := by
  have hwi : wrap64 ((i : Int) + 1) = ((i + 1 : Nat) : Int) := by rw [wrap_small (by omega) (by omega)]; rfl
  have b1 : (0 : Int) ≤ (i : Int) := by omega
  have b2 : (i : Int) < (l.length : Int) := by omega
  induction d with
  | zero =>
    intro j next k K hK hd hn
    obtain rfl : K = k + 1 := by omega
    have c : ¬ (j : Int) < (o.length : Int) := by omega
    have n0 : next.length < 17592186044416 := by omega
    have f : ¬ (false = true) := by simp
    rw [List.drop_eq_nil_of_le (by omega), heliastref13_Places.l1, if_neg c, if_neg f, if_pos b1, if_pos b2, if_pos n0, hwi, rd_en hi, insGo, if_neg f]
  | succ d ih =>
    intro j next k K0 hK hd hn
    obtain ⟨K, hK1⟩ : ∃ m, K0 = m + 1 + 1 := ⟨K0 - 2, by omega⟩
    subst hK1
    have hj : j < o.length := by omega
    have c : (j : Int) < (o.length : Int) := by omega
    have b4 : (0 : Int) ≤ (j : Int) := by omega
    have f : ¬ (false = true) := by simp
    have hoj : rd o (j : Int) = o[j] := by simp [rd, hj]
    have n1 : next.length < 17592186044415 := by omega
    have n2 : j ≤ 3518437208882 := by omega
    have e1 : K = k + 2 * d + 1 := by omega
    have e2 : (j + 1) + d = o.length := by omega
    rw [List.drop_eq_getElem_cons hj, heliastref13_Places.l1, if_pos c, if_neg f, if_pos b4, if_pos b1, if_pos b2, hoj, rd_en hi, insGo]
    by_cases hc : o[j] ≥ l[i].f2
    · have n3 : (next ++ [l[i].f2]).length ≤ (j + 1) + 1 := by rw [List.length_append, List.length_singleton]; omega
      have n4 : (next ++ [l[i].f2] ++ [o[j]]).length ≤ (j + 1) + 1 := by rw [List.length_append, List.length_append, List.length_singleton, List.length_singleton]; omega
      have h1 := RPl_true l i hi o ho hl d (j + 1) (next ++ [l[i].f2]) k K e1 e2 n3
      have h2 := RPl_true l i hi o ho hl d (j + 1) (next ++ [l[i].f2] ++ [o[j]]) k K e1 e2 n4
      have c3 : (false = false ∧ o[j] ≥ l[i].f2) := ⟨rfl, hc⟩
      rw [decide_eq_true hc, Places_j2_t l o i j K next false hi hj n1 n2, h1, h2, if_pos c3]
      by_cases he : o[j] = l[i].f2
      · rw [if_pos he, if_pos he, List.append_assoc, List.singleton_append]
      · rw [if_neg he, if_neg he]; simp
    · have n3 : next.length ≤ j + 1 := by omega
      have n4 : (next ++ [o[j]]).length ≤ j + 1 := by rw [List.length_append, List.length_singleton]; omega
      have h1 := ih (j + 1) next k K e1 e2 n3
      have h2 := ih (j + 1) (next ++ [o[j]]) k K e1 e2 n4
      have c3 : ¬ (false = false ∧ o[j] ≥ l[i].f2) := fun h => hc h.2
      rw [decide_eq_false hc, Places_j2_f l o i j K next false hi hj n1 n2, h1, h2, if_neg c3]
      by_cases he : o[j] = l[i].f2
      · rw [if_pos he, if_pos he]
      · rw [if_neg he, if_neg he, List.append_assoc, List.singleton_append]
theorem RPlaces_l0 (l : List En) (hl : l.length ≤ 3518437208882) (d : Nat) : ∃ k0, ∀ (i : Nat) (o : List Int) (k : Nat), i + d = l.length → o.length ≤ i → o.Pairwise (· < ·) → k0 ≤ k →
    ∃ r : List Int, heliastref13_Places.l0 k l o (i : Int) = some r ∧ r.Pairwise (· < ·) ∧ r.length ≤ l.length ∧ ∀ z, z ∈ r ↔ z ∈ o ∨ ∃ y ∈ l.drop i, y.f2 = z := by
  induction d with
  | zero =>
    refine ⟨1, fun i o k hd ho hp hk => ⟨o, ?_, hp, by omega, fun z => ?_⟩⟩
    · obtain ⟨k, rfl⟩ : ∃ m, k = m + 1 := ⟨k - 1, by omega⟩
      simp only [heliastref13_Places.l0]
      rw [if_neg (by omega)]
    · rw [List.drop_eq_nil_of_le (by omega)]; simp
  | succ d ih =>
    obtain ⟨k0, ih⟩ := ih
    refine ⟨k0 + 2 * l.length + 3, fun i o k hd ho hp hk => ?_⟩
    have hi : i < l.length := by omega
    obtain ⟨q, rfl⟩ : ∃ q, k = (q + 2 * o.length + 1) + 1 := ⟨k - 2 * o.length - 2, by omega⟩
    obtain ⟨h1, h2, h3⟩ := insGo_spec l[i].f2 o hp
    obtain ⟨r, g1, g2, g3, g4⟩ := ih (i + 1) (insGo l[i].f2 false o) q (by omega) (by omega) h1 (by omega)
    refine ⟨r, ?_, g2, g3, fun z => ?_⟩
    · rw [heliastref13_Places.l0, if_pos (by omega), show (0 : Int) = ((0 : Nat) : Int) from rfl, RPl_false l i hi o (by omega) hl o.length 0 [] q _ rfl (by omega) (by simp), List.drop_zero, List.nil_append]
      exact g1
    · rw [g4, h2, List.drop_eq_getElem_cons hi]
      constructor
      · rintro ((rfl | h) | ⟨y, hy, he⟩)
        · exact .inr ⟨l[i], List.mem_cons_self, rfl⟩
        · exact .inl h
        · exact .inr ⟨y, List.mem_cons_of_mem _ hy, he⟩
      · rintro (h | ⟨y, hy, he⟩)
        · exact .inl (.inr h)
        · rcases List.mem_cons.1 hy with rfl | hy
          · exact .inl (.inl he.symm)
          · exact .inr ⟨y, hy, he⟩
theorem RPlaces_f (l : List En) (hl : l.length ≤ 3518437208882) : ∃ k0, ∀ k, k0 ≤ k → heliastref13_Places.f k l = some (placesL l) := by
  obtain ⟨k0, hk0⟩ := RPlaces_l0 l hl l.length
  refine ⟨k0, fun k hk => ?_⟩
  obtain ⟨r, h1, h2, _, h4⟩ := hk0 0 [] k (by omega) (by simp) (by simp) hk
  obtain ⟨p1, p2⟩ := placesL_specB l
  have : r = placesL l := rises_eq h2 p1 (fun z => by rw [h4, p2, List.drop_zero]; simp)
  unfold heliastref13_Places.f
  rw [← this]; exact h1
theorem ROver_l0 (b : List En) (d : Nat) : ∀ (i k : Nat) (cur : List En), srt cur → cur.length + d ≤ 100 → i + d = b.length → b.length ≤ 100 → d + 400 ≤ k → heliastref13_Over.l0 k b cur (i : Int) = some (overL cur (b.drop i)) := by
  induction d with
  | zero =>
    intro i k cur hs hl hd hb hk
    obtain ⟨k, rfl⟩ : ∃ m, k = m + 1 := ⟨k - 1, by omega⟩
    simp only [heliastref13_Over.l0]
    rw [if_neg (by omega), List.drop_eq_nil_of_le (by omega)]; rfl
  | succ d ih =>
    intro i k cur hs hl hd hb hk
    obtain ⟨k, rfl⟩ : ∃ m, k = m + 1 := ⟨k - 1, by omega⟩
    have hi : i < b.length := by omega
    have hw : wrap64 ((i : Int) + 1) = ((i + 1 : Nat) : Int) := by rw [wrap_small (by omega) (by omega)]; rfl
    have hlen := len_stIns b[i] cur
    simp only [heliastref13_Over.l0]
    rw [if_pos (by omega), if_pos (by omega), rd_en hi, ref_Put b[i] cur (by omega) hs k (by omega), Option.bind_some, hw, ih (i + 1) k (stIns b[i] cur) (srt_stIns b[i] hs) (by omega) (by omega) hb (by omega), List.drop_eq_getElem_cons hi]
    rfl
theorem asksA (l : List En) (p q : ByteArray) (n : Int) (hl : l.length < 3518437208882) : ∃ k0, ∀ k, k0 ≤ k → heliastlaw13_asks.f k l p q n = some true := by
  obtain ⟨k0, hk0⟩ := RPlaces_f l (by omega)
  have hpl := placesL_lengthB l
  refine ⟨k0 + l.length + 10, fun k hk => ?_⟩
  unfold heliastlaw13_asks.f
  rw [Right_f l (by omega) k (by omega), Option.bind_some, RRight_f l (by omega) k (by omega), Option.bind_some, if_pos (by simp), show state_Get.f l p q = some (stGet l p q) from rfl, Option.bind_some, RGet_fA l p q hl k (by omega), Option.bind_some, if_pos rfl,
    show state_Places.f l = some (placesL l) from if_pos (by omega), Option.bind_some, hk0 k (by omega), Option.bind_some, g12_SameA _ _ (by omega) k (by omega), Option.bind_some]
  simp
theorem sameA (a b : List En) (ha : a.length < 3518437208882) (hb : b.length < 3518437208882) (k : Nat) (hk : a.length + 1 ≤ k) : heliastlaw13_same.f k a b = some true := by
  unfold heliastlaw13_same.f
  rw [Same_f a b ha hb k hk, Option.bind_some, RSame_fA a b ha hb k hk, Option.bind_some]
  simp
theorem putsA (s : List En) (hs : srt s) (hl : s.length ≤ 20) (p q : ByteArray) (n : Int) (k : Nat) (hk : 200 ≤ k) : heliastlaw13_puts.f k s p q n = some true := by
  have hlen := len_stIns (⟨p, q, n⟩ : En) s
  have h1 : state_Put.f s p q n = some (stIns ⟨p, q, n⟩ s) := Put_f ⟨p, q, n⟩ s hs (by omega)
  have h2 : heliastref13_Put.f k s p q n = some (stIns ⟨p, q, n⟩ s) := ref_Put ⟨p, q, n⟩ s (by omega) hs k (by omega)
  unfold heliastlaw13_puts.f
  rw [h1, Option.bind_some, h2, Option.bind_some, RSame_fA _ _ (by omega) (by omega) k (by omega), Option.bind_some]
  simp
theorem StateAsks_any (a b : List En) (p q : ByteArray) (n : Int) (c d : List Int) (a5 : Int) (ha : a.length < 3518437208882) (hb : b.length < 3518437208882) (hc : c.length ≤ 140737488351232) (hc2 : ∀ x ∈ c, (Go.Lit.int .u8 x).wf = true) (hd : d.length ≤ 140737488351232) (hd2 : ∀ x ∈ d, (Go.Lit.int .u8 x).wf = true) (h5 : 0 ≤ a5) :
    ∃ k, heliastlaw13_StateAsks.f k a b p q n c d a5 = some true := by
  obtain ⟨b1, hb1⟩ := pl_heavy_l0B a (by omega) a.length 0 0 (by omega)
  obtain ⟨b2, hb2⟩ := pl_heavy_l0B b (by omega) b.length 0 0 (by omega)
  obtain ⟨s, hs, hsf⟩ := State_f c 30 (u8_bd hc2) hc
  obtain ⟨t, ht, htf⟩ := State_f d 30 (u8_bd hd2) hd
  have hsl := hs.2.1
  have htl := ht.2.1
  obtain ⟨y, hy⟩ : ∃ y : List ByteArray, y = [(⟨#[]⟩ : ByteArray), (⟨#[64, 97, 58, 115]⟩ : ByteArray), (⟨#[64, 98, 58, 115]⟩ : ByteArray), (⟨#[122, 122]⟩ : ByteArray)] := ⟨_, rfl⟩
  obtain ⟨k1, h1⟩ := asksA a p q n ha
  obtain ⟨k2, h2⟩ := asksA s (⟨#[109, 46, 114, 111, 111, 109, 46, 109, 101, 109, 98, 101, 114]⟩ : ByteArray) (rdOf ByteArray.empty y (Int.tmod a5 4)) (wrap64 a5) (by omega)
  obtain ⟨k3, h3⟩ := asksA s p q n (by omega)
  have m0 : 0 ≤ Int.tmod a5 4 := Int.tmod_nonneg _ h5
  have m1 : Int.tmod a5 4 < 4 := Int.tmod_lt_of_pos _ (by omega)
  have hj : ∀ k, k1 + k2 + k3 + a.length + 2000 ≤ k → heliastlaw13_StateAsks.j0 (k + 1) a b c d a5 false p q n = some true := by
    intro k hk
    have ho1 : state_Over.f k s t = some (overL s t) := Over_f s t hs.1 (by omega) k (by omega)
    have ho2 : heliastref13_Over.f k s t = some (overL s t) := by
      unfold heliastref13_Over.f
      rw [show (0 : Int) = ((0 : Nat) : Int) from rfl, ROver_l0 t t.length 0 k s hs.1 (by omega) (by omega) (by omega) (by omega)]; rfl
    have hol := len_overL t s
    simp only [heliastlaw13_StateAsks.j0]
    rw [if_neg (by simp), hsf k (by omega), Option.bind_some, htf k (by omega), Option.bind_some, Option.bind_some, ← hy, if_pos m0, if_pos (by rw [hy]; exact m1), h1 k (by omega), Option.bind_some, if_pos rfl, h2 k (by omega), Option.bind_some, if_pos rfl, h3 k (by omega), Option.bind_some, if_pos rfl,
      sameA a b ha hb k (by omega), Option.bind_some, if_pos rfl, sameA s t (by omega) (by omega) k (by omega), Option.bind_some, if_pos rfl, sameA s s (by omega) (by omega) k (by omega), Option.bind_some, if_pos rfl, putsA s hs.1 hsl _ _ _ k (by omega), Option.bind_some, if_pos rfl, putsA s hs.1 hsl _ _ _ k (by omega), Option.bind_some, if_pos rfl,
      ho1, Option.bind_some, ho2, Option.bind_some, RSame_fA _ _ (by omega) (by omega) k (by omega), Option.bind_some]
    simp
  have hk : ∀ k, 2000 ≤ k → heliastlaw13_StateAsks.j0 (k + 1) a b c d a5 true p q n = some true := by
    intro k hk
    simp only [heliastlaw13_StateAsks.j0]
    rw [if_pos trivial, known_f k (by omega)]; rfl
  obtain ⟨K, hK⟩ : ∃ K, K = k1 + k2 + k3 + a.length + b.length + 3000 := ⟨_, rfl⟩
  have hb1' := hb1 (K + 1) (by omega)
  have hb2' := hb2 (K + 1) (by omega)
  rw [Int.natCast_zero] at hb1' hb2'
  refine ⟨K + 1, ?_⟩
  unfold heliastlaw13_StateAsks.f heliastlaw13_heavy.f
  rw [hb1', Option.bind_some]
  by_cases h1t : b1 = true
  · rw [if_pos h1t]; exact hk _ (by omega)
  · rw [if_neg h1t, hb2', Option.bind_some]
    by_cases h2t : b2 = true
    · rw [if_pos h2t]; exact hk _ (by omega)
    · rw [if_neg h2t]
      split
      · exact hk _ (by omega)
      · rw [known_f _ (by omega), Option.bind_some]
        exact hj _ (by omega)

end Go.Proofs.Ytbldllghkfgkeaa.S
