-- Written by heprint.py (this session's, over the kit's print.py): not trusted, Lean checks it.
import Derived.Test.YtbldllghkfgkeaaPb0
import Derived.Test.YtbldllghkfgkeaaPb1
import Derived.Test.YtbldllghkfgkeaaPb2
import Derived.Test.YtbldllghkfgkeaaPb3
import Derived.Test.YtbldllghkfgkeaaPb4
import Derived.Test.YtbldllghkfgkeaaPb5
import Derived.Test.YtbldllghkfgkeaaPb6
namespace Go.Proofs.Ytbldllghkfgkeaa.S
open Go.RowKit Go.Proofs.YtbldllghkfgkeaaW.PrintWords Go.Proofs.YtbldllghkfgkeaaW.PrintLast Go.Proofs.YtbldllghkfgkeaaW.PrintMore
attribute [local go_sem] max2_int min2_int max_two min_two max_three min_three max_four min_four   -- for this text's walks alone
set_option linter.unusedVariables false
set_option linter.unusedSimpArgs false

/-! ### pure St1 -/
-- PURE needs heliast/heliastref13.Put needs heliast/state.Put needs heliast/state.Get needs heliast/heliastlaw13.State needs heliast/state.Right
open Go.Proofs.He
theorem ref_order (k : Nat) (a b : En) : heliastref13_order.f (k + 1) a.f0 a.f1 a.f2 b.f0 b.f1 b.f2 = some (cmpE a b) := by
  simp only [heliastref13_order.f, heliastref13_order.j0, He.bytesLess_eq, decide_eq_true_eq]
  unfold cmpE
  rcases cmpS_cases a.f0 b.f0 with ⟨h, h'⟩ | ⟨h, h'⟩ | ⟨h, h'⟩
  · simp [h, h']
  · rcases cmpS_cases a.f1 b.f1 with ⟨g, g'⟩ | ⟨g, g'⟩ | ⟨g, g'⟩ <;> rw [if_pos h, g]
    · simp [h', List.lt_irrefl, g']
    · simp [h', g', List.lt_irrefl]
    · have : b.f1.toList ≠ a.f1.toList := fun e => by rw [e] at g'; exact List.lt_irrefl _ g'
      simp [h', List.lt_irrefl, List.lt_asymm g', Ne.symm this]
  · have : a.f0.toList ≠ b.f0.toList := fun e => by rw [e] at h'; exact List.lt_irrefl _ h'
    simp [h, List.lt_asymm h', this]
theorem wrap_small {i : Int} (h0 : -9223372036854775808 ≤ i) (h : i ≤ 9223372036854775807) : wrap64 i = i := by unfold wrap64; omega
theorem rd_en {l : List En} {i : Nat} (h : i < l.length) : rd_T74 l (i : Int) = l[i] := by simp [rd_T74, h]
theorem ref_Put_l0 (x : En) (l : List En) (hl : l.length < 3518437208882) (d : Nat) : ∀ (i : Nat) (out : List En) (laid : Bool) (k : Nat), i + d = l.length → 3 * d + 2 ≤ k → out.length ≤ i + (if laid then 1 else 0) →
    heliastref13_Put.l0 k l out laid (i : Int) x.f0 x.f1 x.f2 = some (out ++ (if laid then (l.drop i).filter (fun z => cmpE z x != 0) else refIns x (l.drop i))) := by
  induction d with
  | zero =>
    intro i out laid k hd hk ho
    obtain ⟨k, rfl⟩ : ∃ m, k = m + 1 := ⟨k - 1, by omega⟩
    have e : l.drop i = [] := List.drop_eq_nil_of_le (by omega)
    simp only [heliastref13_Put.l0]
    rw [if_neg (by omega), e]
    cases laid
    · simp only [Bool.false_eq_true, if_false, Nat.add_zero] at ho ⊢
      rw [if_pos (by omega)]; rfl
    · simp
  | succ d ih =>
    intro i out laid k hd hk ho
    obtain ⟨k, rfl⟩ : ∃ m, k = m + 3 := ⟨k - 3, by omega⟩
    have hi : i < l.length := by omega
    have ed : l.drop i = l[i] :: l.drop (i + 1) := List.drop_eq_getElem_cons hi
    have hw : wrap64 ((i : Int) + 1) = ((i + 1 : Nat) : Int) := by rw [wrap_small (by omega) (by omega)]; rfl
    simp only [heliastref13_Put.l0]
    rw [if_pos (by omega), if_pos (by omega), rd_en hi, ref_order (k + 1), Option.bind_some, ed]
    cases laid
    · simp only [Bool.false_eq_true, if_false, Nat.add_zero] at ho ⊢
      simp only [heliastref13_Put.j1]
      rw [refIns]
      by_cases hc : 0 ≤ cmpE l[i] x
      · rw [if_pos hc, if_pos (by simpa using hc), if_pos (by omega), Option.bind_some]
        by_cases h0 : cmpE l[i] x = 0
        · rw [if_pos h0, hw, ih (i + 1) _ true (k + 1) (by omega) (by omega) (by simp; omega), if_pos h0]
          simp
        · rw [if_neg h0, if_pos (by omega), if_pos (by omega), if_pos (by simp; omega), hw, rd_en hi, ih (i + 1) _ true (k + 1) (by omega) (by omega) (by simp; omega), if_neg h0]
          simp
      · have h0 : ¬ cmpE l[i] x = 0 := by omega
        rw [if_neg hc, if_neg (by simpa using hc), if_neg h0, if_pos (by omega), if_pos (by omega), if_pos (by omega), hw, rd_en hi, ih (i + 1) _ false (k + 1) (by omega) (by omega) (by simp; omega)]
        simp
    · simp only [if_true] at ho ⊢
      simp only [heliastref13_Put.j1, Bool.false_eq_true, if_false]
      rw [List.filter_cons]
      by_cases h0 : cmpE l[i] x = 0
      · rw [if_pos h0, hw, ih (i + 1) _ true (k + 1) (by omega) (by omega) (by simp; omega)]
        simp [h0]
      · rw [if_neg h0, if_pos (by omega), if_pos (by omega), if_pos (by omega), hw, rd_en hi, ih (i + 1) _ true (k + 1) (by omega) (by omega) (by simp; omega)]
        simp [h0]
theorem ref_Put (x : En) (l : List En) (hl : l.length < 3518437208882) (hs : srt l) (k : Nat) (hk : 3 * l.length + 2 ≤ k) : heliastref13_Put.f k l x.f0 x.f1 x.f2 = some (stIns x l) := by
  have h := ref_Put_l0 x l hl l.length 0 [] false k (by omega) hk (by simp)
  unfold heliastref13_Put.f
  rw [show (0 : Int) = ((0 : Nat) : Int) from rfl, h]
  simp [refIns_eq x hs]
theorem mx_one (m : Int) : 1 ≤ mx m 1 := by unfold mx; split <;> omega
def okSt (m : Int) (n : Nat) (s : List En) : Prop := srt s ∧ s.length ≤ n ∧ ∀ y ∈ s, 0 ≤ y.f2 ∧ y.f2 < mx m 1
theorem State_l0 (c : List Int) (m : Int) (T Ks : List ByteArray) (hT : T.length = 5) (hK : Ks.length = 3) (hc : ∀ x ∈ c, 0 ≤ x ∧ x ≤ 255) (hlen : c.length ≤ 140737488351232) (d : Nat) :
    ∀ (i : Nat) (out : List En), i + 2 * d = 40 → okSt m (i / 2) out → ∃ s, okSt m 20 s ∧ ∀ k, d + 65 ≤ k → heliastlaw13_State.l0 k c m T Ks out (i : Int) = some s := by
  have hrd : ∀ j : Nat, j < c.length → 0 ≤ rd c (j : Int) ∧ rd c (j : Int) ≤ 255 := fun j hj => by
    have : rd c (j : Int) = c[j] := by simp [rd, hj]
    rw [this]; exact hc _ (List.getElem_mem hj)
  induction d with
  | zero =>
    intro i out hi ⟨h1, h2, h3⟩
    refine ⟨out, ⟨h1, by omega, h3⟩, fun k hk => ?_⟩
    obtain ⟨k, rfl⟩ : ∃ m, k = m + 1 := ⟨k - 1, by omega⟩
    simp only [heliastlaw13_State.l0]
    split
    · rw [if_neg (by omega)]
    · rfl
  | succ d ih =>
    intro i out hi ⟨h1, h2, h3⟩
    have hw1 : wrap64 ((i : Int) + 1) = ((i + 1 : Nat) : Int) := by rw [wrap_small (by omega) (by omega)]; rfl
    have hw2 : wrap64 ((i : Int) + 2) = ((i + 2 : Nat) : Int) := by rw [wrap_small (by omega) (by omega)]; rfl
    by_cases hlt : i + 1 < c.length
    · obtain ⟨r1, r2⟩ := hrd i (by omega)
      obtain ⟨r3, r4⟩ := hrd (i + 1) hlt
      have hm := mx_one m
      have e1 : Int.tmod (rd c (i : Int)) 5 = rd c (i : Int) % 5 := Int.tmod_eq_emod_of_nonneg r1
      have e2 : Int.tdiv (rd c (i : Int)) 5 = rd c (i : Int) / 5 := Int.tdiv_eq_ediv_of_nonneg r1
      have e3 : wrap64 (rd c ((i + 1 : Nat) : Int)) = rd c ((i + 1 : Nat) : Int) := wrap_small (by omega) (by omega)
      have e4 : Int.tmod (rd c ((i + 1 : Nat) : Int)) (mx m 1) = rd c ((i + 1 : Nat) : Int) % mx m 1 := Int.tmod_eq_emod_of_nonneg r3
      obtain ⟨x, hx⟩ : ∃ x : En, x = ⟨rdOf ByteArray.empty T (rd c (i : Int) % 5), rdOf ByteArray.empty Ks (rd c (i : Int) / 5 % 256 % 3), rd c ((i + 1 : Nat) : Int) % mx m 1⟩ := ⟨_, rfl⟩
      have hx2 : 0 ≤ x.f2 ∧ x.f2 < mx m 1 := by rw [hx]; exact ⟨Int.emod_nonneg _ (by omega), Int.emod_lt_of_pos _ (by omega)⟩
      obtain ⟨s, hs, hf⟩ := ih (i + 2) (stIns x out) (by omega) ⟨srt_stIns x h1, by have := len_stIns x out; omega, fun y hy => by
        rcases mem_stIns hy with rfl | hy
        · exact hx2
        · exact h3 y hy⟩
      refine ⟨s, hs, fun k hk => ?_⟩
      obtain ⟨k, rfl⟩ : ∃ m, k = m + 1 := ⟨k - 1, by omega⟩
      simp only [heliastlaw13_State.l0]
      rw [hw1, hw2, e1, e2, e3, e4, if_pos (by omega), if_pos (by omega), if_pos (by omega), if_pos (by omega), if_pos (by omega), if_pos (by rw [hT]; omega), if_pos (by omega), if_pos (by rw [hK]; omega), if_pos (by omega), if_neg (by omega)]
      have := ref_Put x out (by omega) h1 k (by omega)
      rw [hx] at this
      rw [this, Option.bind_some, ← hx]
      exact hf k (by omega)
    · refine ⟨out, ⟨h1, by omega, h3⟩, fun k hk => ?_⟩
      obtain ⟨k, rfl⟩ : ∃ m, k = m + 1 := ⟨k - 1, by omega⟩
      simp only [heliastlaw13_State.l0]
      rw [hw1, if_neg (by omega)]
theorem State_f (c : List Int) (m : Int) (hc : ∀ x ∈ c, 0 ≤ x ∧ x ≤ 255) (hlen : c.length ≤ 140737488351232) : ∃ s, okSt m 20 s ∧ ∀ k, 100 ≤ k → heliastlaw13_State.f k c m = some s := by
  unfold heliastlaw13_State.f
  exact Exists.imp (fun s h => ⟨h.1, fun k hk => h.2 k (by omega)⟩) (State_l0 c m _ _ (by rfl) (by rfl) hc hlen 20 0 [] (by omega) ⟨srt_nil, by simp, fun y hy => by simp at hy⟩)
theorem wf_u8 {c : List Int} (h : ∀ x ∈ c, (Lit.int .u8 x).wf = true) : ∀ x ∈ c, 0 ≤ x ∧ x ≤ 255 := by
  intro x hx
  have := h x hx
  simp [Lit.wf, IntKind.min, IntKind.max, IntKind.signed, IntKind.bits] at this
  omega
theorem Right_l0 (l : List En) (hl : l.length ≤ 3518437208882) (d : Nat) : ∀ (i k : Nat), 1 ≤ i → i + d = l.length → d + 5 ≤ k → state_Right.l0 k l (l.length : Int) (i : Int) = some (srtB (l.drop (i - 1))) := by
  induction d with
  | zero =>
    intro i k h1 hd hk
    obtain ⟨k, rfl⟩ : ∃ m, k = m + 1 := ⟨k - 1, by omega⟩
    have e : l.drop (i - 1) = [l[i - 1]'(by omega)] := by rw [List.drop_eq_getElem_cons (by omega), List.drop_eq_nil_of_le (by omega)]
    simp only [state_Right.l0]
    rw [if_neg (by omega), e]; rfl
  | succ d ih =>
    intro i k h1 hd hk
    obtain ⟨k, rfl⟩ : ∃ m, k = m + 1 := ⟨k - 1, by omega⟩
    have hi : i < l.length := by omega
    have hw : wrap64 ((i : Int) + 1) = ((i + 1 : Nat) : Int) := by rw [wrap_small (by omega) (by omega)]; rfl
    have hv : wrap64 ((i : Int) - 1) = ((i - 1 : Nat) : Int) := by rw [wrap_small (by omega) (by omega)]; omega
    have e : l.drop (i - 1) = l[i - 1] :: l[i] :: l.drop (i + 1) := by
      rw [List.drop_eq_getElem_cons (by omega), show i - 1 + 1 = i by omega, List.drop_eq_getElem_cons hi]
    have e2 : l.drop i = l[i] :: l.drop (i + 1) := List.drop_eq_getElem_cons hi
    have hcmp : state_compare.f k l[i - 1].f0 l[i - 1].f1 l[i - 1].f2 l[i].f0 l[i].f1 l[i].f2 = some (cmpE l[i - 1] l[i]) := at_rounds (fun q => state_compare.mono _ _ _ _ _ _ q) (by omega) (cmpE_of l[i - 1] l[i])
    simp only [state_Right.l0]
    rw [hv, hw, if_pos (by omega), if_pos (by omega), if_pos (by omega), if_pos (by omega), if_pos (by omega), if_pos (by omega), rd_en (show i - 1 < l.length by omega), rd_en hi, hcmp, Option.bind_some, e, srtB]
    by_cases hc : cmpE l[i - 1] l[i] < 0
    · rw [if_neg (by omega), ih (i + 1) k (by omega) (by omega) (by omega), show i + 1 - 1 = i by omega, e2]
      simp [hc]
    · rw [if_pos (by omega)]
      simp [hc]
theorem Right_f (l : List En) (hl : l.length ≤ 3518437208882) (k : Nat) (hk : l.length + 6 ≤ k) : state_Right.f k l = some (srtB l) := by
  unfold state_Right.f
  obtain ⟨k, rfl⟩ : ∃ m, k = m + 1 := ⟨k - 1, by omega⟩
  rcases Nat.eq_zero_or_pos l.length with h0 | h0
  · simp only [state_Right.l0]
    rw [if_neg (by omega), List.eq_nil_of_length_eq_zero h0]; rfl
  · simp only [state_Right.l0]
    rw [if_pos (by omega), if_neg (by omega), show wrap64 (0 + 1) = ((1 : Nat) : Int) from wrap_small (by omega) (by omega), Right_l0 l hl (l.length - 1) 1 k (by omega) (by omega) (by omega)]
    rfl
theorem en_ext {a b : En} (h : a.f0.toList = b.f0.toList ∧ a.f1.toList = b.f1.toList ∧ a.f2 = b.f2) : a = b := by
  obtain ⟨h0, h1, h2⟩ := h
  cases a; cases b
  simp only at h0 h1 h2
  rw [ba_ext h0, ba_ext h1, h2]
theorem en_ne (a b : En) : ((!(a.f0.toList == b.f0.toList) || (!(a.f1.toList == b.f1.toList) || (!(a.f2 == b.f2)))) = true) ↔ a ≠ b := by
  constructor
  · rintro h rfl; simp at h
  · intro h
    apply Classical.byContradiction
    intro g
    apply h
    simp at g
    exact en_ext g

/-! ### pure St2 -/
-- PURE needs heliast/heliastref13.Put needs heliast/state.Put needs heliast/state.Get needs heliast/heliastlaw13.State needs heliast/state.Right needs heliast/heliastlaw13.known
open Go.Proofs.He
theorem known_f (k : Nat) (hk : 10 ≤ k) : heliastlaw13_known.f k = some true :=
  at_rounds (fun q => heliastlaw13_known.mono q) hk (by decide +kernel)
theorem Right_t (l : List En) (hs : srt l) (hl : l.length ≤ 3518437208882) (k : Nat) (hk : l.length + 6 ≤ k) : state_Right.f k l = some true := by
  rw [Right_f l hl k hk, srtB_iff.2 hs]
theorem Put_f (x : En) (l : List En) (hs : srt l) (hl : l.length < 3518437208882) : state_Put.f l x.f0 x.f1 x.f2 = some (stIns x l) := by
  unfold state_Put.f
  rw [if_pos ⟨srtB_iff.2 hs, hl⟩]
theorem stGet_of {l : List En} {p q : ByteArray} {y : En} (h : look l p q = some y) : stGet l p q = y.f2 := by rw [stGet_look, h]

/-! ### pure St7 -/
-- PURE needs heliast/heliastlaw13.StatePlaces needs heliast/heliastlaw13.places needs heliast/heliastlaw13.heavy needs heliast/heliastref12.Has needs heliast/heliastlaw13.known needs heliast/heliastlaw13.State needs heliast/state.Places needs heliast/heliastref13.Put needs heliast/state.Put needs heliast/state.Get needs heliast/state.Right
open Go.Proofs.He
theorem pl_wrap {i : Int} (h0 : -9223372036854775808 ≤ i) (h : i ≤ 9223372036854775807) : wrap64 i = i := by unfold wrap64; omega
theorem pl_rd {l : List Int} {i : Nat} (h : i < l.length) : rd l (i : Int) = l[i] := by simp [rd, h]
theorem pl_Has_l0 (l : List Int) (x : Int) (hl : l.length < 4611686018427387904) (d : Nat) : ∀ (i k : Nat), i + d = l.length → d + 1 ≤ k → heliastref12_Has.l0 k l x (i : Int) = some (decide (x ∈ l.drop i)) := by
  induction d with
  | zero =>
    intro i k hd hk
    obtain ⟨k, rfl⟩ : ∃ m, k = m + 1 := ⟨k - 1, by omega⟩
    simp only [heliastref12_Has.l0]
    rw [if_neg (by omega), List.drop_eq_nil_of_le (by omega)]; simp
  | succ d ih =>
    intro i k hd hk
    obtain ⟨k, rfl⟩ : ∃ m, k = m + 1 := ⟨k - 1, by omega⟩
    have hi : i < l.length := by omega
    have hw : wrap64 ((i : Int) + 1) = ((i + 1 : Nat) : Int) := by rw [pl_wrap (by omega) (by omega)]; rfl
    simp only [heliastref12_Has.l0]
    rw [if_pos (by omega), if_pos (by omega), pl_rd hi, List.drop_eq_getElem_cons hi]
    by_cases he : l[i] = x
    · rw [if_pos he]; simp [he]
    · rw [if_neg he, hw, ih (i + 1) k (by omega) (by omega)]
      have hx : x ≠ l[i] := fun e => he e.symm
      refine congrArg some (decide_eq_decide.2 ?_)
      rw [List.mem_cons]
      exact ⟨fun h => .inr h, fun h => h.resolve_left hx⟩
theorem pl_Has (l : List Int) (x : Int) (hl : l.length < 4611686018427387904) (k : Nat) (hk : l.length + 1 ≤ k) : heliastref12_Has.f k l x = some (decide (x ∈ l)) := by
  unfold heliastref12_Has.f
  rw [show (0 : Int) = ((0 : Nat) : Int) from rfl, pl_Has_l0 l x hl l.length 0 k (by omega) hk]; rfl
/-- what compact leaves of a sorted row: rising, and the same elements -/
theorem compactUpTo_spec (d : Array Int) (hs : ∀ i j, i ≤ j → j < d.size → d[i]! ≤ d[j]!) : ∀ (m : Nat), m ≤ d.size → (Lib.compactUpTo d m).Pairwise (· < ·) ∧ (∀ x, x ∈ Lib.compactUpTo d m ↔ ∃ j, j < m ∧ d[j]! = x)
  | 0, _ => by simp [Lib.compactUpTo]
  | m + 1, hm => by
    obtain ⟨h1, h2⟩ := compactUpTo_spec d hs m (by omega)
    rw [Lib.compactUpTo_succ]
    cases hk : Lib.keeps d m with
    | true =>
      rw [if_pos rfl]
      have hne : m = 0 ∨ d[m]! ≠ d[m - 1]! := by simpa [Lib.keeps] using hk
      refine ⟨List.pairwise_append.2 ⟨h1, by simp, fun a ha b hb => ?_⟩, fun x => ?_⟩
      · rw [List.mem_singleton.1 hb]
        obtain ⟨j, hj, rfl⟩ := (h2 a).1 ha
        have e1 := hs j (m - 1) (by omega) (by omega)
        have e2 := hs (m - 1) m (by omega) (by omega)
        rcases hne with h | h <;> omega
      · rw [List.mem_append, List.mem_singleton, h2]
        constructor
        · rintro (⟨j, hj, rfl⟩ | rfl)
          · exact ⟨j, by omega, rfl⟩
          · exact ⟨m, by omega, rfl⟩
        · rintro ⟨j, hj, rfl⟩
          by_cases e : j = m
          · subst e; exact .inr rfl
          · exact .inl ⟨j, by omega, rfl⟩
    | false =>
      have hne : m ≠ 0 ∧ d[m]! = d[m - 1]! := by simpa [Lib.keeps] using hk
      rw [if_neg (by simp), List.append_nil]
      refine ⟨h1, fun x => ?_⟩
      rw [h2]
      constructor
      · rintro ⟨j, hj, rfl⟩; exact ⟨j, by omega, rfl⟩
      · rintro ⟨j, hj, rfl⟩
        by_cases e : j = m
        · subst e; exact ⟨j - 1, by omega, hne.2.symm⟩
        · exact ⟨j, by omega, rfl⟩
theorem placesL_spec (l : List S74) : (placesL l).Pairwise (· < ·) ∧ (∀ x, x ∈ placesL l ↔ ∃ y ∈ l, y.f2 = x) := by
  unfold placesL Lib.compact
  obtain ⟨s, hs⟩ : ∃ s, s = (l.map fun x => x.f2).mergeSort fun x y => decide (x ≤ y) := ⟨_, rfl⟩
  rw [← hs]
  have hp : s.Pairwise (fun x y => x ≤ y) := by
    have := List.pairwise_mergeSort (le := fun x y : Int => decide (x ≤ y)) (fun a b c h1 h2 => by simp at *; omega) (fun a b => by simp; omega) (l.map fun x => x.f2)
    rw [← hs] at this
    exact this.imp (fun h => by simpa using h)
  have hmem : ∀ x, x ∈ s ↔ ∃ y ∈ l, y.f2 = x := fun x => by
    rw [hs, (List.mergeSort_perm _ _).mem_iff, List.mem_map]
  have hat : ∀ j, (h : j < s.length) → s.toArray[j]! = s[j] := fun j h => by rw [getElem!_pos s.toArray j (by simpa using h)]; simp
  obtain ⟨h1, h2⟩ := compactUpTo_spec s.toArray (fun i j hij hj => by
    have hj' : j < s.length := by simpa using hj
    rw [hat i (by omega), hat j hj']
    rcases Nat.lt_or_eq_of_le hij with h | rfl
    · exact List.pairwise_iff_getElem.1 hp i j (by omega) hj' h
    · omega) s.length (by simp)
  refine ⟨h1, fun x => ?_⟩
  rw [h2, ← hmem]
  constructor
  · rintro ⟨j, hj, rfl⟩; rw [hat j hj]; exact List.getElem_mem hj
  · intro hx; obtain ⟨j, hj, rfl⟩ := List.getElem_of_mem hx; exact ⟨j, hj, hat j hj⟩
theorem placesL_length (l : List S74) : (placesL l).length ≤ l.length := by
  unfold placesL
  refine Nat.le_trans (Lib.compact_length_le _) ?_
  rw [List.length_mergeSort, List.length_map]; exact Nat.le_refl _
theorem pl_rdT {l : List S74} {i : Nat} (h : i < l.length) : rd_T74 l (i : Int) = l[i] := by simp [rd_T74, h]
theorem places_l2 (l : List S74) (p : List Int) (hl : l.length ≤ 5864062014805) (hp : p.Pairwise (· < ·)) (hpl : p.length ≤ 5864062014805) (i : Nat) (hi : i < p.length) (d : Nat) : ∀ (j : Nat) (b : Bool) (k K : Nat), K = k + d + 1 → j + d = l.length → (b || (l.drop j).any (fun y => decide (y.f2 = p[i]))) = true →
    heliastlaw13_places.l2 K l p (i : Int) b (j : Int) = heliastlaw13_places.l1 k l p ((i + 1 : Nat) : Int) := by
  have hwi : wrap64 ((i : Int) + 1) = ((i + 1 : Nat) : Int) := by rw [pl_wrap (by omega) (by omega)]; rfl
  induction d with
  | zero =>
    intro j b k K hK hd hb
    subst hK
    rw [List.drop_eq_nil_of_le (by omega)] at hb
    simp only [List.any_nil, Bool.or_false] at hb
    simp only [heliastlaw13_places.l2]
    rw [if_neg (by omega), if_pos hb, hwi]
    by_cases h0 : i = 0
    · rw [if_neg (by omega)]
    · have hw2 : wrap64 ((i : Int) - 1) = ((i - 1 : Nat) : Int) := by rw [pl_wrap (by omega) (by omega)]; omega
      have hlt := List.pairwise_iff_getElem.1 hp (i - 1) i (by omega) hi (by omega)
      rw [if_pos (by omega), hw2, if_pos (by omega), if_pos (by omega), if_pos (by omega), if_pos (by omega), pl_rd (by omega), pl_rd hi, if_neg (by omega)]
  | succ d ih =>
    intro j b k K0 hK hd hb
    obtain ⟨K, rfl⟩ : ∃ m, K0 = m + 1 := ⟨K0 - 1, by omega⟩
    have hj : j < l.length := by omega
    have hw : wrap64 ((j : Int) + 1) = ((j + 1 : Nat) : Int) := by rw [pl_wrap (by omega) (by omega)]; rfl
    rw [List.drop_eq_getElem_cons hj, List.any_cons] at hb
    simp only [heliastlaw13_places.l2]
    rw [if_pos (by omega), hw]
    cases b with
    | true => rw [if_pos rfl]; exact ih (j + 1) true k K (by omega) (by omega) (by simp)
    | false =>
      rw [if_neg (by simp), if_pos (by omega), if_pos (by omega), if_pos (by omega), pl_rdT hj, pl_rd hi]
      refine ih (j + 1) _ k K (by omega) (by omega) ?_
      simpa using hb
theorem places_l1 (l : List S74) (p : List Int) (hl : l.length ≤ 5864062014805) (hp : p.Pairwise (· < ·)) (hpl : p.length ≤ 5864062014805) (hm : ∀ x ∈ p, ∃ y ∈ l, y.f2 = x) (d : Nat) : ∃ k0, ∀ (i k : Nat), i + d = p.length → k0 ≤ k → heliastlaw13_places.l1 k l p (i : Int) = some true := by
  induction d with
  | zero =>
    refine ⟨1, fun i k hd hk => ?_⟩
    obtain ⟨k, rfl⟩ : ∃ m, k = m + 1 := ⟨k - 1, by omega⟩
    simp only [heliastlaw13_places.l1]
    rw [if_neg (by omega)]
  | succ d ih =>
    obtain ⟨k0, ih⟩ := ih
    refine ⟨k0 + l.length + 2, fun i k hd hk => ?_⟩
    obtain ⟨q, rfl⟩ : ∃ q, k = (q + l.length + 1) + 1 := ⟨k - l.length - 2, by omega⟩
    have hi : i < p.length := by omega
    simp only [heliastlaw13_places.l1]
    rw [if_pos (by omega), show (0 : Int) = ((0 : Nat) : Int) from rfl, places_l2 l p hl hp hpl i hi l.length 0 false q _ rfl (by omega) (by
      obtain ⟨y, hy, he⟩ := hm _ (List.getElem_mem hi)
      rw [Bool.false_or, List.drop_zero, List.any_eq_true]
      exact ⟨y, hy, by simpa using he⟩)]
    exact ih (i + 1) q (by omega) (by omega)
theorem places_l0 (l : List S74) (p : List Int) (hl : l.length ≤ 5864062014805) (hpl : p.length ≤ 5864062014805) (hm : ∀ y ∈ l, y.f2 ∈ p) (d : Nat) : ∀ (i k K : Nat), K = k + d + 1 → i + d = l.length → p.length + 1 ≤ k → heliastlaw13_places.l0 K l p (i : Int) = heliastlaw13_places.l1 k l p 0 := by
  induction d with
  | zero =>
    intro i k K hK hd hk
    subst hK
    simp only [heliastlaw13_places.l0]
    rw [if_neg (by omega)]
  | succ d ih =>
    intro i k K0 hK hd hk
    obtain ⟨K, rfl⟩ : ∃ m, K0 = m + 1 := ⟨K0 - 1, by omega⟩
    have hi : i < l.length := by omega
    have hw : wrap64 ((i : Int) + 1) = ((i + 1 : Nat) : Int) := by rw [pl_wrap (by omega) (by omega)]; rfl
    simp only [heliastlaw13_places.l0]
    rw [if_pos (by omega), if_pos (by omega), pl_rdT hi, pl_Has p _ (by omega) K (by omega), Option.bind_some, if_pos (by simpa using hm _ (List.getElem_mem hi)), hw]
    exact ih (i + 1) k K (by omega) (by omega) hk
theorem places_true (l : List S74) (hl : l.length ≤ 5864062014805) : ∃ k0, ∀ k, k0 ≤ k → heliastlaw13_places.f k l = some true := by
  obtain ⟨h1, h2⟩ := placesL_spec l
  have h3 := placesL_length l
  obtain ⟨k0, hk0⟩ := places_l1 l (placesL l) hl h1 (by omega) (fun x hx => (h2 x).1 hx) (placesL l).length
  refine ⟨k0 + l.length + (placesL l).length + 3, fun k hk => ?_⟩
  unfold heliastlaw13_places.f state_Places.f
  rw [if_pos (by omega), Option.bind_some]
  obtain ⟨q, rfl⟩ : ∃ q, k = q + l.length + 1 := ⟨k - l.length - 1, by omega⟩
  have h := places_l0 l (placesL l) hl (by omega) (fun y hy => (h2 _).2 ⟨y, hy, rfl⟩) l.length 0 q _ rfl (by omega) (by omega)
  rw [Int.natCast_zero] at h
  rw [h]
  have := hk0 0 q (by omega) (by omega)
  rwa [Int.natCast_zero] at this
theorem pl_heavy_l0 (l : List S74) (hl : l.length ≤ 5864062014805) (d : Nat) : ∀ (i : Nat) (x : Int), i + d = l.length → ∃ b, ∀ k, d + 1 ≤ k → heliastlaw13_heavy.l0 k l x (i : Int) = some b := by
  induction d with
  | zero =>
    intro i x hd
    refine ⟨decide (x > 300), fun k hk => ?_⟩
    obtain ⟨k, rfl⟩ : ∃ m, k = m + 1 := ⟨k - 1, by omega⟩
    simp only [heliastlaw13_heavy.l0]
    rw [if_neg (by omega)]
  | succ d ih =>
    intro i x hd
    have hw : wrap64 ((i : Int) + 1) = ((i + 1 : Nat) : Int) := by rw [pl_wrap (by omega) (by omega)]; rfl
    by_cases hx : x ≤ 300
    · obtain ⟨b, hb⟩ := ih (i + 1) (wrap64 (x + (wrap64 ((wrap64 (1 + (((rd_T74 l (i : Int)).f0).size : Int))) + (((rd_T74 l (i : Int)).f1).size : Int))))) (by omega)
      refine ⟨b, fun k hk => ?_⟩
      obtain ⟨k, rfl⟩ : ∃ m, k = m + 1 := ⟨k - 1, by omega⟩
      simp only [heliastlaw13_heavy.l0]
      rw [if_pos (by omega), if_pos hx, if_pos (by omega), hw]
      exact hb k (by omega)
    · refine ⟨decide (x > 300), fun k hk => ?_⟩
      obtain ⟨k, rfl⟩ : ∃ m, k = m + 1 := ⟨k - 1, by omega⟩
      simp only [heliastlaw13_heavy.l0]
      rw [if_pos (by omega), if_neg hx]
theorem StatePlaces_any (c : List Int) (l : List S74) (hl : l.length ≤ 5864062014805) (hm : c.length ≤ 140737488351232) (hc : ∀ x ∈ c, (Go.Lit.int .u8 x).wf = true) : ∃ k, heliastlaw13_StatePlaces.f k c l = some true := by
  obtain ⟨b, hb⟩ := pl_heavy_l0 l hl l.length 0 0 (by omega)
  obtain ⟨s, hs, hsf⟩ := State_f c 9 (u8_bd hc) hm
  have hsl : s.length ≤ 5864062014805 := by have := hs.2.1; omega
  obtain ⟨k1, h1⟩ := places_true l hl
  obtain ⟨k2, h2⟩ := places_true s hsl
  refine ⟨k1 + k2 + l.length + 1000, ?_⟩
  have hb' := hb (k1 + k2 + l.length + 1000) (by omega)
  rw [Int.natCast_zero] at hb'
  unfold heliastlaw13_StatePlaces.f heliastlaw13_heavy.f
  rw [hb', Option.bind_some]
  by_cases hbt : b = true
  · rw [if_pos hbt, known_f _ (by omega)]; rfl
  · rw [if_neg hbt, known_f _ (by omega), Option.bind_some, if_pos rfl, h1 _ (by omega), Option.bind_some, if_pos rfl, hsf _ (by omega), Option.bind_some, h2 _ (by omega)]; rfl

end Go.Proofs.Ytbldllghkfgkeaa.S
